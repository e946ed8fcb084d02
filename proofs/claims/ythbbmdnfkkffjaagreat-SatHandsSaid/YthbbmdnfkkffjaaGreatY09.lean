/-
  Parts of the proof, joined by program: HpI, Bk.
-/
import Derived.Test.YthbbmdnfkkffjaaGreatY05
import Derived.Test.YthbbmdnfkkffjaaGreatY08
import Derived.Test.YthbbmdnfkkffjaaGreatY06
import Derived.Test.YthbbmdnfkkffjaaGreatY01
import Derived.Deep.RegionWith
import Derived.Deep.DeepCutAuto
import Derived.StillTailTactics
import Derived.Defers
import Derived.Lib.Hide
set_option maxHeartbeats 8000000
set_option maxRecDepth 100000
namespace Go.Proofs.YthbbmdnfkkffjaaGreat
open Go.Proofs.au Go.Proofs.aA
structure bG (S:SM):Prop where
 hb:HB S
 pl:∀ i,i<S.hl.length→gn S.place (gn S.hl i)=i+1
 bk:∀ v,v<S.value.length→gn S.place v≠0→gn S.place v≤S.hl.length∧gn S.hl (gn S.place v-1)=v
theorem iF {l:List Nat} {i v:Nat} (h:i<l.length):gn (l.set i v) i=v:=by simp[gn,List.getD_eq_getElem?_getD,h]
theorem fB {l:List Nat} {i j v:Nat} (h:i≠j):gn (l.set i v) j=gn l j:=by simp[gn,List.getD_eq_getElem?_getD,List.getElem?_set_ne h]
theorem gZ {l:List Nat} {i j v:Nat} (h:i<l.length):gn (l.set i v) j=if j=i then v else gn l j:=by
 split
 ·rename_i e;rw[e,iF h]
 ·rename_i e;rw[fB (fun h=>e h.symm)]
theorem dX {l m:List Nat} {i:Nat} (h:i<l.length):gn (l++m) i=gn l i:=by simp[gn,List.getD_eq_getElem?_getD,List.getElem?_append_left h]
theorem rO {l m:List Nat} {i:Nat} (h:l.length≤i):gn (l++m) i=gn m (i-l.length):=by simp[gn,List.getD_eq_getElem?_getD,List.getElem?_append_right h]
theorem lM {l:List Nat} {n i:Nat} (h:i<n):gn (l.take n) i=gn l i:=by simp[gn,List.getD_eq_getElem?_getD,h]
theorem bG.inj {S:SM} (h:bG S) {i j:Nat} (hi:i<S.hl.length) (hj:j<S.hl.length) (e:gn S.hl i=gn S.hl j):i=j:=by
 have h1:=h.pl i hi;have h2:=h.pl j hj;rw[e] at h1;omega
theorem bG.lt {S:SM} (h:bG S) {i:Nat} (hi:i<S.hl.length):gn S.hl i<S.value.length:=h.hb.vars _ (aU _ _ hi)
theorem bG.swap {T:SM} (h:bG T) {i j:Nat} (hi:i<T.hl.length) (hj:j<T.hl.length) (hij:i≠j) :
  bG { T with hl:=(T.hl.set i (gn T.hl j)).set j (gn T.hl i),place:=(T.place.set (gn T.hl j) (i+1)).set (gn T.hl i) (j+1) }:=by
 have hne:gn T.hl i≠gn T.hl j:=fun e=>hij (h.inj hi hj e);have li:=h.lt hi;have lj:=h.lt hj;have hp:=h.hb.place;refine⟨⟨h.hb.small,?_,?_,h.hb.met,?_⟩,?_,?_⟩
 ·intro x hx;rcases List.mem_or_eq_of_mem_set hx with h1 | rfl
  ·rcases List.mem_or_eq_of_mem_set h1 with h2 | rfl
   ·exact h.hb.vars x h2
   ·exact lj
  ·exact li
 ·simp[hp]
 ·simpa using h.hb.hl
 ·intro k hk;simp only[List.length_set] at hk;simp only;rw[gZ (l:=T.hl.set i (gn T.hl j)) (by simpa using hj)]
  by_cases e1:k=j
  ·subst e1;rw[if_pos rfl,iF (by simp[hp];exact li)]
  ·rw[if_neg e1,gZ (l:=T.hl) hi]
   by_cases e2:k=i
   ·subst e2;rw[if_pos rfl,fB (by exact hne),iF (by rw[hp];exact lj)]
   ·rw[if_neg e2,fB (fun e=>e2 (h.inj hk hi e.symm)),fB (fun e=>e1 (h.inj hk hj e.symm))];exact h.pl k hk
 ·intro v hv hz;simp only at hv hz ⊢;rw[gZ (by simp[hp];exact li)] at hz ⊢
  by_cases e1:v=gn T.hl i
  ·rw[if_pos e1];refine⟨by simp;omega,?_⟩;rw[Nat.add_sub_cancel,iF (by simpa using hj),e1]
  ·rw[if_neg e1] at hz ⊢;rw[gZ (by rw[hp];exact lj)] at hz ⊢
   by_cases e2:v=gn T.hl j
   ·rw[if_pos e2];refine⟨by simp;omega,?_⟩;rw[Nat.add_sub_cancel,fB (fun e=>hij e.symm),iF hi,e2]
   ·rw[if_neg e2] at hz ⊢;obtain⟨b1,b2⟩:=h.bk v hv hz;refine⟨by simpa using b1,?_⟩;rw[fB (fun e=>e2 (by rw[←b2,e])),fB (fun e=>e1 (by rw[←b2,e]))];exact b2
theorem zI {l:List Nat} {i a b:Nat}:(l.set i a).set i b=l.set i b:=by simp
theorem bG.move {S:SM} {i j v:Nat} (h:bG (S.lay i v)) (hi:i<S.hl.length) (hj:j<S.hl.length) (hij:i≠j):bG ((S.lay i (gn S.hl j)).lay j v):=by
 have hi':i<(S.lay i v).hl.length:=by show i<(S.hl.set i v).length;simpa using hi
 have hj':j<(S.lay i v).hl.length:=by show j<(S.hl.set i v).length;simpa using hj
 have h1:=h.swap hi' hj' hij;have e1:gn (S.lay i v).hl i=v:=iF hi;have e2:gn (S.lay i v).hl j=gn S.hl j:=fB hij;rw[e1,e2] at h1;have hne:v≠gn S.hl j:=fun e=>hij (h.inj hi' hj' (by rw[e1,e2,e]))
 have e3:({ S.lay i v with hl:=((S.lay i v).hl.set i (gn S.hl j)).set j v,place:=((S.lay i v).place.set (gn S.hl j) (i+1)).set v (j+1) }:SM)=(S.lay i (gn S.hl j)).lay j v:=by
  show ({ S with hl:=((S.hl.set i v).set i (gn S.hl j)).set j v,place:=((S.place.set v (i+1)).set (gn S.hl j) (i+1)).set v (j+1) }:SM)={ S with hl:=(S.hl.set i (gn S.hl j)).set j v,place:=(S.place.set (gn S.hl j) (i+1)).set v (j+1) };rw[zI,List.set_comm _ _ hne,zI]
 rw[e3] at h1;exact h1
theorem bG.ji:∀ (f:Nat) {S:SM} {v i:Nat},bG (S.lay i v)→i<S.hl.length→bG (SM.ji f S v i)
 | 0,S,v,i,h,_=>h
 | f+1,S,v,i,h,hi=>by
  rw[SM.ji]
  split
  ·rename_i hc;simp only[Bool.and_eq_true,decide_eq_true_eq] at hc;exact bG.ji f (h.move hi (by omega) (by omega)) (by show _<(S.hl.set _ _).length;rw[List.length_set];omega)
  ·exact h
theorem Mx (S:SM) (i:Nat) (h:¬ S.hl.length≤2*i+1):i<S.child i∧S.child i<S.hl.length:=by
 unfold SM.child
 split
 ·rename_i hc;simp only[Bool.and_eq_true,decide_eq_true_eq] at hc;omega
 ·omega
theorem bG.dH:∀ (f:Nat) {S:SM} {v i:Nat},bG (S.lay i v)→i<S.hl.length→bG (SM.dH f S v i)
 | 0,S,v,i,h,_=>h
 | f+1,S,v,i,h,hi=>by
  rw[SM.dH]
  split
  ·exact h
  ·rename_i hl;obtain⟨c1,c2⟩:=Mx S i hl
   split
   ·exact bG.dH f (h.move hi c2 (by omega)) (by show _<(S.hl.set _ _).length;rw[List.length_set];exact c2)
   ·exact h
theorem bG.Tm {S:SM} (h:bG S) {i:Nat} (hi:i<S.hl.length):S.lay i (gn S.hl i)=S:=by
 have e1:S.hl.set i (gn S.hl i)=S.hl:=by
  apply List.ext_getElem?;intro k
  by_cases e:k=i
  ·subst e;rw[aM S.hl k hi];simp[hi]
  ·rw[List.getElem?_set_ne (fun h=>e h.symm)]
 have e2:S.place.set (gn S.hl i) (i+1)=S.place:=by
  have hp:=h.hb.place;have hl:=h.lt hi;apply List.ext_getElem?;intro k
  by_cases e:k=gn S.hl i
  ·subst e;rw[aM S.place _ (by omega),h.pl i hi,List.getElem?_set_self (by omega)]
  ·rw[List.getElem?_set_ne (fun h=>e h.symm)]
 show ({ S with hl:=S.hl.set i (gn S.hl i),place:=S.place.set (gn S.hl i) (i+1) }:SM)=S;rw[e1,e2]
theorem bG.up {S:SM} (h:bG S) {i:Nat} (hi:i<S.hl.length):bG (S.up i):=bG.ji _ (by rw[h.Tm hi];exact h) hi
theorem bG.down {S:SM} (h:bG S) {i:Nat} (hi:i<S.hl.length):bG (S.down i):=bG.dH _ (by rw[h.Tm hi];exact h) hi
theorem bG.Tn {S:SM} (h:bG S) {v:Nat} (hz:gn S.place v=0):v∉S.hl:=fun hm=>by
 obtain⟨i,hi,e⟩:=List.getElem_of_mem hm;have:=h.pl i hi;rw[fD _ _ hi,e,hz] at this;omega
theorem bG.nodup {S:SM} (h:bG S):S.hl.Nodup:=by
 rw[List.nodup_iff_pairwise_ne,List.pairwise_iff_getElem];intro a b ha hb hab e;have:=h.inj ha hb (by rw[fD _ _ ha,fD _ _ hb];exact e);omega
theorem nH {d L:List Nat} (hn:d.Nodup) (h:∀ x∈d,x∈L):d.length≤L.length:=by
 induction d generalizing L with
 | nil=>simp
 | cons x r ih =>
  rw[List.nodup_cons] at hn;have hx:=h x (by simp);have:=ih (L:=L.erase x) hn.2 fun y hy=>(List.mem_erase_of_ne (fun (e:y=x)=>hn.1 (e▸hy))).2 (h y (by simp[hy]));rw[List.length_erase_of_mem hx] at this;have:=List.length_pos_of_mem hx;simp only[List.length_cons];omega
theorem bG.room {S:SM} (h:bG S) {v:Nat} (hv:v<S.value.length) (hz:gn S.place v=0):S.hl.length<S.value.length:=by
 have h1:(v :: S.hl).Nodup:=List.nodup_cons.2 ⟨h.Tn hz,h.nodup⟩
 have:=nH h1 (L:=List.range S.value.length) fun x hx=>by
  rw[List.mem_range];rcases List.mem_cons.1 hx with rfl | hx
  ·exact hv
  ·exact h.hb.vars x hx
 simp at this;omega
theorem bG.put {S:SM} (h:bG S) {v:Nat} (hv:v<S.value.length):bG (S.put v):=by
 unfold SM.put
 split
 ·rename_i hz;have hr:=h.room hv hz;have hp:=h.hb.place;have hg:gn (S.hl++[v]) S.hl.length=v:=by rw[rO (Nat.le_refl _)];simp[gn]
  refine bG.ji _ ?_ (by simp);have hset:(S.hl++[v]).set S.hl.length v=S.hl++[v]:=by simp
  have e:SM.lay { S with hl:=S.hl++[v] } S.hl.length (gn (S.hl++[v]) S.hl.length)={ S with hl:=S.hl++[v],place:=S.place.set v (S.hl.length+1) }:=by
   rw[hg];show ({ S with hl:=(S.hl++[v]).set S.hl.length v,place:=S.place.set v (S.hl.length+1) }:SM)=_;rw[hset]
  show bG (SM.lay { S with hl:=S.hl++[v] } S.hl.length (gn (S.hl++[v]) S.hl.length));rw[e];refine⟨⟨h.hb.small,fun x hx=>?_,by simp[hp],h.hb.met,by simp;omega⟩,fun i hi=>?_,fun u hu hz'=>?_⟩
  ·rcases List.mem_append.1 hx with hx | hx
   ·exact h.hb.vars x hx
   ·rw[List.mem_singleton.1 hx];exact hv
  ·simp only[List.length_append,List.length_singleton] at hi;simp only
   by_cases e1:i<S.hl.length
   ·rw[dX e1,fB (fun e=>h.Tn hz (by rw[e];exact aU _ _ e1))];exact h.pl i e1
   ·have:i=S.hl.length:=by omega
    subst this;rw[hg,iF (by omega)]
  ·simp only at hu hz' ⊢;rw[gZ (by omega)] at hz' ⊢
   by_cases e1:u=v
   ·rw[if_pos e1];refine⟨by simp,?_⟩;rw[Nat.add_sub_cancel,hg,e1]
   ·rw[if_neg e1] at hz' ⊢;obtain⟨b1,b2⟩:=h.bk u hu hz';refine⟨by simp;omega,?_⟩;rw[dX (by omega)];exact b2
 ·exact h
theorem bG.bump {S:SM} (h:bG S) {v:Nat}:bG (S.bump v):=⟨⟨h.hb.small,h.hb.vars,h.hb.place,by show (S.met.set _ _).length=_;rw[List.length_set];exact h.hb.met,h.hb.hl⟩,h.pl,h.bk⟩
theorem bG.WQ {S:SM} (h:bG S) {v:Nat} (hv:v<S.value.length):∀ x,gn S.place v=x+1→x<S.hl.length:=fun x hx=>by
 have:=(h.bk v hv (by omega)).1;omega
theorem bG.meet {S:SM} (h:bG S) {v:Nat} (hv:v<S.value.length):bG (S.meet v):=by
 unfold SM.meet
 split
 ·exact h.bump
 ·rename_i hz;exact h.bump.up (by have:=(h.bk v hv hz).1;show gn S.place v-1<S.hl.length;omega)
theorem bG.taken {S:SM} (h:bG S) (hl:S.hl.length≠0):bG S.taken:=by
 have hp:=h.hb.place;have h0:=h.lt (i:=0) (by omega);unfold SM.taken
 split
 ·rename_i h1;refine⟨⟨h.hb.small,fun x hx=>(by cases hx),by simp[hp],h.hb.met,Nat.zero_le _⟩,fun i hi=>absurd hi (Nat.not_lt_zero _),fun v hv hz=>?_⟩;simp only at hv hz;rw[gZ (by omega)] at hz
  by_cases e1:v=gn S.hl 0
  ·rw[if_pos e1] at hz;exact absurd rfl hz
  ·rw[if_neg e1] at hz;obtain⟨b1,b2⟩:=h.bk v hv hz;have:gn S.place v-1=0:=by omega
   rw[this] at b2;exact absurd b2.symm e1
 ·rename_i h1;have hm:=h.lt (i:=S.hl.length-1) (by omega);have hne:gn S.hl (S.hl.length-1)≠gn S.hl 0:=fun e=>by have:=h.inj (by omega) (by omega) e;omega
  have key:bG (SM.lay { S with hl:=S.hl.take (S.hl.length-1),place:=S.place.set (gn S.hl 0) 0 } 0 (gn S.hl (S.hl.length-1))):=by
   have hlen:(S.hl.take (S.hl.length-1)).length=S.hl.length-1:=by rw[List.length_take];omega
   refine⟨⟨h.hb.small,?_,?_,h.hb.met,?_⟩,?_,?_⟩
   ·intro x hx;rcases List.mem_or_eq_of_mem_set hx with h2 | rfl
    ·exact h.hb.vars x (List.mem_of_mem_take h2)
    ·exact hm
   ·show ((S.place.set (gn S.hl 0) 0).set _ _).length=_;rw[List.length_set,List.length_set];exact hp
   ·show ((S.hl.take (S.hl.length-1)).set 0 _).length≤_;rw[List.length_set,hlen];have:S.hl.length≤S.value.length:=h.hb.hl;show S.hl.length-1≤S.value.length;omega
   ·intro i hi
    have hi':i<S.hl.length-1:=by
     have:i<((S.hl.take (S.hl.length-1)).set 0 (gn S.hl (S.hl.length-1))).length:=hi
     rwa [List.length_set,hlen] at this
    show gn ((S.place.set (gn S.hl 0) 0).set (gn S.hl (S.hl.length-1)) (0+1)) (gn ((S.hl.take (S.hl.length-1)).set 0 (gn S.hl (S.hl.length-1))) i)=i+1;rw[gZ (l:=S.hl.take (S.hl.length-1)) (by omega)]
    by_cases e1:i=0
    ·subst e1;rw[if_pos rfl,iF (by simp[hp];omega)]
    ·rw[if_neg e1,lM (by omega),fB (fun e=>by have:=h.inj (by omega) (by omega) e;omega),fB (fun e=>by have:=h.inj (by omega) (by omega) e;omega)];exact h.pl i (by omega)
   ·intro v hv hz;have hz':gn ((S.place.set (gn S.hl 0) 0).set (gn S.hl (S.hl.length-1)) (0+1)) v≠0:=hz;show gn ((S.place.set (gn S.hl 0) 0).set (gn S.hl (S.hl.length-1)) (0+1)) v≤((S.hl.take (S.hl.length-1)).set 0 (gn S.hl (S.hl.length-1))).length∧gn ((S.hl.take (S.hl.length-1)).set 0 (gn S.hl (S.hl.length-1))) (gn ((S.place.set (gn S.hl 0) 0).set (gn S.hl (S.hl.length-1)) (0+1)) v-1)=v;rw[gZ (l:=S.place.set (gn S.hl 0) 0) (by simp[hp];omega)] at hz' ⊢;rw[List.length_set,hlen]
    by_cases e1:v=gn S.hl (S.hl.length-1)
    ·rw[if_pos e1];refine⟨by omega,?_⟩;rw[iF (by omega),e1]
    ·rw[if_neg e1] at hz' ⊢;rw[gZ (by omega)] at hz' ⊢
     by_cases e2:v=gn S.hl 0
     ·rw[if_pos e2] at hz';exact absurd rfl hz'
     ·rw[if_neg e2] at hz' ⊢;obtain⟨b1,b2⟩:=h.bk v hv hz';have hx:gn S.place v-1≠S.hl.length-1:=fun e=>by rw[e] at b2;exact e1 b2.symm
      have hy:gn S.place v-1≠0:=fun e=>by rw[e] at b2;exact e2 b2.symm
      refine⟨by omega,?_⟩;rw[fB (fun e=>hy e.symm),lM (by omega)];exact b2
  exact key.down (by show 0<((S.hl.take (S.hl.length-1)).set 0 _).length;rw[List.length_set,List.length_take];omega)
theorem bG.take {S:SM} (h:bG S):bG S.take.1:=by
 unfold SM.take
 split
 ·exact h
 ·rename_i hl;exact h.taken hl
theorem bG.sift:∀ (n:Nat) {S:SM},bG S→n≤S.hl.length→bG (SM.sift n S)
 | 0,S,h,_=>h
 | n+1,S,h,hn=>bG.sift n (h.down (by omega)) (by rw[show (S.down n).hl.length=S.hl.length from qN _];omega)
theorem bG.lS {S:SM} (h:bG S):bG S.lS:=by
 unfold SM.lS;refine bG.sift _ ⟨⟨h.hb.small,h.hb.vars,h.hb.place,by show (S.met.map (·/2)).length=_;rw[List.length_map];exact h.hb.met,h.hb.hl⟩,h.pl,h.bk⟩ ?_;show S.hl.length/2≤S.hl.length;omega
end Go.Proofs.YthbbmdnfkkffjaaGreat
namespace Go.Proofs.aC
open Go
def Fq (P:Program) (f:FuncId) (args:Array Value) (w:World) (R:Ending→World→Prop):Prop :=
 ∃ fn c,P.funcs[f]?=some fn∧fn.body=some c∧c.wp P (bodyPost P fn R) { tmps:=args++Array.replicate (fn.ntmps-args.size) undef,defers:=[] } w
theorem Fq.calls {P:Program} {f:FuncId} {args:Array Value} {w:World} {R:Ending→World→Prop} (h:Fq P f args w R):Calls P f args w R:=by
 obtain⟨_,_,h1,h2,h3⟩:=h;exact calls_of_wp h1 h2 h3
theorem Fq.deferred {P:Program} {f:FuncId} {args:Array Value} {w:World} {R:Ending→World→Prop} (h:Fq P f args w R) (u:FrameMode):CallsD P f args u w fun e u' w'=>u'=u∧R e w':=by
 obtain⟨_,_,h1,h2,h3⟩:=h;exact callsD_of_wp h1 h2 h3
end Go.Proofs.aC
namespace Go.Proofs.YthbbmdnfkkffjaaGreat
open Go.RowKit Go.Proofs.aC Go.Proofs.au Go.Proofs.aA
abbrev MM.ig (M:MM) (ph:Fl Bool) (va re:Fl Int) (a b c:Fl Nat):MM:={ M with phase:=ph,value:=va,reason:=re,hl:=a,place:=b,met:=c }
abbrev MM.yj (M:MM) (ph:Fl Bool) (va re:Fl Int) (a b c tr en:Fl Nat) (nx:Nat):MM:={ M with phase:=ph,value:=va,reason:=re,hl:=a,place:=b,met:=c,trail:=tr,ends:=en,next:=nx }
structure Sz (S:SM):Prop where
 level:S.level.length=S.value.length
 reason:S.reason.length=S.value.length
 phase:S.phase.length=S.value.length
 occurs:S.occurs.length=S.value.length
 units:S.units.length=S.value.length
 aj:S.aj.length=2*S.value.length
theorem bG.undo {S:SM} (h:bG S) {l:Nat} (hl:l/2<S.value.length):bG (S.undo l):=by
 unfold SM.undo;have hlen:(S.value.set (l/2) 0).length=S.value.length:=by simp
 refine bG.put (S:={ S with phase:=S.phase.set (l/2) (l % 2==0),value:=S.value.set (l/2) 0,reason:=S.reason.set (l/2) (-1) }) ⟨⟨by show (S.value.set _ _).length≤_;rw[hlen];exact h.hb.small,fun x hx=>by show x<(S.value.set _ _).length;rw[hlen];exact h.hb.vars x hx,by show _=(S.value.set _ _).length;rw[hlen];exact h.hb.place,by show _=(S.value.set _ _).length;rw[hlen];exact h.hb.met,by show _≤(S.value.set _ _).length;rw[hlen];exact h.hb.hl⟩,h.pl,fun v hv hz=>h.bk v (by rw[←hlen];exact hv) hz⟩ (by show _<(S.value.set _ _).length;rw[hlen];exact hl)
theorem rP:∀ (f:Nat) {S:SM} {v i:Nat},(SM.ji f S v i).value=S.value
 | 0,_,_,_=>rfl
 | f+1,S,v,i=>by
  rw[SM.ji]
  split
  ·rw[rP f];rfl
  ·rfl
theorem I7 (S:SM) (v:Nat):(S.put v).value=S.value:=by
 unfold SM.put
 split
 ·exact rP _
 ·rfl
theorem yt:∀ (f:Nat) (S:SM) (v i:Nat),SM.ji f S v i={ S with hl:=(SM.ji f S v i).hl,place:=(SM.ji f S v i).place }
 | 0,_,_,_=>rfl
 | f+1,S,v,i=>by
  rw[SM.ji]
  split
  ·have:=yt f (S.lay i (gn S.hl ((i-1)/2))) v ((i-1)/2);rw[this];rfl
  ·rfl
theorem I8 (S:SM) (v:Nat):S.put v={ S with hl:=(S.put v).hl,place:=(S.put v).place }:=by
 unfold SM.put
 split
 ·exact yt _ _ _ _
 ·rfl
theorem yu (S:SM) (l:Nat):S.undo l={ S with phase:=S.phase.set (l/2) (l % 2==0),value:=S.value.set (l/2) 0,reason:=S.reason.set (l/2) (-1),hl:=(S.undo l).hl,place:=(S.undo l).place }:=I8 _ _
structure qx (S T:SM):Prop where
 same:T={ S with phase:=T.phase,value:=T.value,reason:=T.reason,hl:=T.hl,place:=T.place }
 phase:T.phase.length=S.phase.length
 value:T.value.length=S.value.length
 reason:T.reason.length=S.reason.length
theorem qx.refl (S:SM):qx S S:=⟨rfl,rfl,rfl,rfl⟩
theorem Co (S:SM) (l:Nat):qx S (S.undo l):=by
 have h:=yu S l;refine⟨by rw[h],?_,?_,?_⟩ <;> rw[h] <;> simp
theorem qx.trans {S T U:SM} (h:qx S T) (k:qx T U):qx S U:=by
 refine⟨?_,k.phase.trans h.phase,k.value.trans h.value,k.reason.trans h.reason⟩;have h1:=k.same;rw[h.same] at h1;exact h1
theorem rQ (S:SM):∀ ls,qx S (S.dS ls):=by
 intro ls
 induction ls generalizing S with
 | nil=>exact qx.refl S
 | cons l r ih=>exact (Co S l).trans (ih (S.undo l))
theorem Fu (S:SM) (l:Nat):(S.undo l).value=S.value.set (l/2) 0:=I7 _ _
theorem bG.dS {S:SM} (h:bG S):∀ (ls:List Nat),(∀ l∈ls,l/2<S.value.length)→bG (S.dS ls)∧(S.dS ls).value.length=S.value.length:=by
 intro ls
 induction ls generalizing S with
 | nil=>intro _;exact⟨h,rfl⟩
 | cons l r ih =>
  intro hl;have h1:=h.undo (hl l (by simp));have h2:(S.undo l).value.length=S.value.length:=by rw[Fu,List.length_set]
  have:=ih h1 fun x hx=>by rw[h2];exact hl x (by simp[hx])
  exact⟨this.1,this.2.trans h2⟩
theorem mR (S:SM) (ls:List Nat) (l:Nat):S.dS (ls++[l])=(S.dS ls).undo l:=by simp[SM.dS]
section
variable {B:Nat} {w0 w:World} {p:Nat} {M:MM} {F:HP}
theorem I9 (k:Nat) (h:At B w0 w p M F) (hh:bG M.sv) (hz:Sz M.sv) (ht:∀ l∈M.trail.xs,l/2<M.value.xs.length) (htl:M.trail.xs.length≤1000000) (hel:M.ends.xs.length≤1000000) (he:k<M.ends.xs.length→gn M.ends.xs k≤M.trail.xs.length) (hk:k≤1000000) :
  Fq Tryz.prog 69 #[.pointer (some ⟨p,0,none⟩),.int .i64 k] w fun e w'=>e=.returned (.tuple #[]) ∧
   ∃ ph va re a b c tr en nx,At B w0 w' p (M.yj ph va re a b c tr en nx) F∧MM.sv (M.yj ph va re a b c tr en nx)=M.sv.back k:=by
 have HAT:=zH (KE h);obtain⟨ne,hne⟩:∃ ne,M.ends.xs.length=ne:=⟨_,rfl⟩;rw[hne] at HAT hel he;have hbk:M.sv.back k=if ne≤k then M.sv else { M.sv.dS (M.trail.xs.drop (gn M.ends.xs k)) with trail:=M.trail.xs.take (gn M.ends.xs k),ends:=M.ends.xs.take k,next:=gn M.ends.xs k }:=by rw[←hne];rfl
 have H:=zH h
 by_cases hle:ne≤k
 ·have e1:decide ((ne:Int)≤(k:Int))=true:=by simpa using hle
  rw[if_pos hle] at hbk;have HBK:=zH hbk;clear h hh hz ht he hbk;refine⟨_,_,Tryz.func69,rfl,?_⟩;simp only[Tryz.ntmps69,List.size_toArray,List.length_cons,List.length_nil,Nat.reduceAdd,Nat.reduceSub,Array.replicate_succ,Array.replicate_zero,List.push_toArray,List.append_toArray,List.nil_append,List.cons_append]
  go_wp2_with fail
  refine HAT.out.mono ?_
  rintro e w' ⟨rfl,rfl⟩
  go_wp2
  refine bodyPost_ret (results_none rfl _ _ _) rfl ?_;exact⟨rfl,_,_,_,_,_,_,_,_,_,H.out,HBK.out.symm⟩
 ·have e1:decide ((ne:Int)≤(k:Int))=false:=by simp;omega
  rw[if_neg hle] at hbk;have hkn:k<ne:=by omega
  have hfr:=he hkn;obtain⟨be,hbe⟩:=h.adD (by omega);obtain⟨d1,_⟩:=h.adE hbe (aM M.ends.xs k (by omega));have c1:=h.qo;rw[hbe,hne] at c1;have c2:=h.jV;obtain⟨from_,acK⟩:∃ fr,gn M.ends.xs k=fr:=⟨_,rfl⟩;rw[acK] at d1 hbk hfr;simp only[Option.map_some,vN] at c1 d1;obtain⟨nt,hnt⟩:∃ nt,M.trail.xs.length=nt:=⟨_,rfl⟩;rw[hnt] at c2 hfr htl;obtain⟨N,hN⟩:∃ N,M.value.xs.length=N:=⟨_,rfl⟩;rw[hN] at ht;obtain⟨ct,hct⟩:∃ ct,M.trail.c=ct:=⟨_,rfl⟩;have hcap:nt≤ct:=by have:=h.mP.sat.aR.2.1;omega
  rw[hct] at c2;obtain⟨ls,hls⟩:∃ ls,M.trail.xs.drop from_=ls:=⟨_,rfl⟩;have agt:ls.length=nt-from_:=by rw[←hls,List.length_drop,hnt]
  have adO:∀ l∈ls,l/2<N:=fun l hl=>ht l (by rw[←hls] at hl;exact List.mem_of_mem_drop hl);rw[hls] at hbk;have HBK:=zH hbk;have HHI:=zH (fun i=>hh.dS (ls.take i) (fun l hl=>by show _<M.value.xs.length;rw[hN];exact adO l (List.mem_of_mem_take hl)));have HZ:=zH hz;have Qu:=zH hls;have HLM:=zH adO;have LU:=zH agt;have wJ:=zH hnt;have HN:=zH hN;have tL:=zH hne;have hNs:N≤100000:=by rw[←hN];exact hh.hb.small
  have k0:(0:Int)≤(k:Int):=by omega
  have k1:(k:Int)<(ne:Int):=by omega
  have f0:(0:Int)≤(from_:Int):=by omega
  have f1:(from_:Int)≤(nt:Int):=by omega
  have f2:(from_:Int)≤(ct:Int):=by omega
  have f3:(nt:Int)≤(ct:Int):=by omega
  obtain⟨ce,hce⟩:∃ ce,M.ends.c=ce:=⟨_,rfl⟩;have hcec:ne≤ce:=by have:=h.uG.sat.aR.2.1;omega
  rw[hce] at c1;have HCE:=zH hce;have HCT:=zH hct;have HBE:=zH hbe;have k2:(k:Int)≤(ce:Int):=by omega
  have UC:=zH (show M.trail.a=none→nt=0 from fun e=>by have:=(h.mP.sat.aR.2.2.2.1 e).1;omega)
  have HX0:=zH (show ¬ ct=from_→∃ bt,M.trail.a=some bt from fun hne2=>by
   obtain⟨_,_,_,hnone,_⟩:=h.mP.sat.aR
   cases e:M.trail.a with
   | none=>have:=(hnone e).2;omega
   | some bt=>exact⟨bt,rfl⟩)
  have hwk:IntKind.i64.wrap (k:Int)=(k:Int):=by rw[IntKind.wrap_i64];omega
  have hwf:IntKind.i64.wrap (from_:Int)=(from_:Int):=by rw[IntKind.wrap_i64];omega
  clear h hh hz ht he hbk hls agt adO hnt hN hne hct hbe acK hce
  by_cases hcf:ct=from_
  ·have hnf:nt=from_:=by omega
   have akm:ls=[]:=List.eq_nil_of_length_eq_zero (by rw[LU.out];omega);subst akm;subst hcf;subst hnf
   cases Tp:M.trail.a with
   | none =>
    have HTA:=zH Tp;rw[Tp] at c2;simp only[Option.map_none] at c2;obtain rfl:nt=0:=UC.out Tp;clear Tp;refine⟨_,_,Tryz.func69,rfl,?_⟩;simp only[Tryz.ntmps69,List.size_toArray,List.length_cons,List.length_nil,Nat.reduceAdd,Nat.reduceSub,Array.replicate_succ,Array.replicate_zero,List.push_toArray,List.append_toArray,List.nil_append,List.cons_append]
    go_wp2_with fail
    refine HAT.out.mono ?_
    rintro e w' ⟨rfl,rfl⟩
    go_wp2
    have c8:=H.out.qo;have f7:=H.out.fz;have f71:=f7 12;have f72:=f7 13;have f73:=f7 14;have c9:=H.out.Bf;clear f7 c8
    go_loopg [25] (0) (fun g s25 wr=>s25=.int .i64 0∧Hid (g=0)∧Hid (w=wr))
    case atStart=>exact⟨rfl,rfl,rfl⟩
    case round =>
     obtain⟨rfl,hg,HW⟩:=hrel;obtain rfl:=HW.out;clear HW
     go_wp2
     go_region
     go_wp2
     go_end0
     refine⟨rfl,M.phase,M.value,M.reason,M.hl,M.place,M.met,⟨M.trail.a,M.trail.c,M.trail.xs.take 0⟩,⟨M.ends.a,M.ends.c,M.ends.xs.take k⟩,0,?_,?_⟩
     ·have h1:=((H.out.Bh (n:=0) (by rw[wJ.out];exact Nat.le_refl _)).D8 (M:=M.kF ⟨M.trail.a,M.trail.c,M.trail.xs.take 0⟩) (n:=k) (by show k≤M.ends.xs.length;rw[tL.out];omega)).uD 0;have h2:=h1.drewN 1;rw[show M.trail.a=none from HTA.out,show M.trail.c=0 from HCT.out,show (M.kF ⟨none,0,M.trail.xs.take 0⟩).ends.a=some be from HBE.out,show (M.kF ⟨none,0,M.trail.xs.take 0⟩).ends.c=ce from HCE.out] at h2;rw[show M.trail.a=none from HTA.out,show M.trail.c=0 from HCT.out,show M.ends.a=some be from HBE.out,show M.ends.c=ce from HCE.out];exact h2
     ·rw[HBK.out];rfl
   | some bt =>
    have HTA:=zH Tp;rw[Tp] at c2;simp only[Option.map_some] at c2;clear Tp;refine⟨_,_,Tryz.func69,rfl,?_⟩;simp only[Tryz.ntmps69,List.size_toArray,List.length_cons,List.length_nil,Nat.reduceAdd,Nat.reduceSub,Array.replicate_succ,Array.replicate_zero,List.push_toArray,List.append_toArray,List.nil_append,List.cons_append]
    go_wp2_with fail
    refine HAT.out.mono ?_
    rintro e w' ⟨rfl,rfl⟩
    go_wp2
    have c8:=H.out.qo;have f7:=H.out.fz;have f71:=f7 12;have f72:=f7 13;have f73:=f7 14;have c9:=H.out.Bf;clear f7 c8
    go_loopg [25] (0) (fun g s25 wr=>s25=.int .i64 0∧Hid (g=0)∧Hid (w=wr))
    case atStart=>exact⟨rfl,rfl,rfl⟩
    case round =>
     obtain⟨rfl,hg,HW⟩:=hrel;obtain rfl:=HW.out;clear HW
     go_wp2
     go_region
     go_wp2
     go_end0
     refine⟨rfl,M.phase,M.value,M.reason,M.hl,M.place,M.met,⟨M.trail.a,M.trail.c,M.trail.xs.take nt⟩,⟨M.ends.a,M.ends.c,M.ends.xs.take k⟩,nt,?_,?_⟩
     ·have h1:=((H.out.Bh (n:=nt) (by rw[wJ.out];exact Nat.le_refl _)).D8 (M:=M.kF ⟨M.trail.a,M.trail.c,M.trail.xs.take nt⟩) (n:=k) (by show k≤M.ends.xs.length;rw[tL.out];omega)).uD nt;have h2:=h1.drewN 1;rw[show M.trail.a=(some bt) from HTA.out,show M.trail.c=nt from HCT.out,show (M.kF ⟨(some bt),nt,M.trail.xs.take nt⟩).ends.a=some be from HBE.out,show (M.kF ⟨(some bt),nt,M.trail.xs.take nt⟩).ends.c=ce from HCE.out] at h2;rw[show M.trail.a=(some bt) from HTA.out,show M.trail.c=nt from HCT.out,show M.ends.a=some be from HBE.out,show M.ends.c=ce from HCE.out];exact h2
     ·rw[HBK.out];rfl
  ·obtain⟨bt,hbt⟩:=HX0.out hcf;rw[hbt] at c2;simp only[Option.map_some] at c2;have HBT:=zH hbt;clear hbt;refine⟨_,_,Tryz.func69,rfl,?_⟩;simp only[Tryz.ntmps69,List.size_toArray,List.length_cons,List.length_nil,Nat.reduceAdd,Nat.reduceSub,Array.replicate_succ,Array.replicate_zero,List.push_toArray,List.append_toArray,List.nil_append,List.cons_append]
   go_wp2_with fail
   refine HAT.out.mono ?_
   rintro e w' ⟨rfl,rfl⟩
   go_wp2
   go_loopg [25] (nt-from_) (fun g s25 wr=>∃ (i:Nat) (ph:Fl Bool) (va re:Fl Int) (a b c:Fl Nat),s25=.int .i64 i∧i≤nt-from_∧Hid (g=nt-from_-i)∧Hid (At B w0 wr p (M.ig ph va re a b c) F)∧Hid (MM.sv (M.ig ph va re a b c)=M.sv.dS (ls.take i)))
   case atStart=>exact⟨0,M.phase,M.value,M.reason,M.hl,M.place,M.met,rfl,Nat.zero_le _,rfl,H.out,rfl⟩
   case round =>
    obtain⟨i,ph,va,re,a,b,c,rfl,hi,hg,H2,HS⟩:=hrel
    by_cases hin:i<nt-from_
    ·obtain⟨l,hl⟩:∃ l,gn ls i=l:=⟨_,rfl⟩;have hln:l/2<N:=by rw[←hl];exact HLM.out _ (aU _ _ (by rw[LU.out];exact hin))
     have hget:M.trail.xs[from_+i]?=some l:=by
      have h1:(M.trail.xs.drop from_)[i]?=M.trail.xs[from_+i]?:=List.getElem?_drop;rw[Qu.out] at h1;rw[←h1,aM ls i (by rw[LU.out];exact hin),hl]
     obtain⟨d2,_⟩:=H2.out.Dt HBT.out hget;obtain⟨v,hv⟩:∃ v,l/2=v:=⟨_,rfl⟩;rw[hv] at hln
     have hval:va.xs.length=N:=by
      have h1:=congrArg (fun S:SM=>S.value.length) HS.out;have h2:=(HHI.out i).2;rw[←HN.out];exact h1.trans h2
     have hHI:=(HHI.out i).1;rw[←HS.out] at hHI;have agv:=zH hHI
     have UD:=zH (show ph.xs.length=N∧re.xs.length=N from by
      have hu:=rQ M.sv (ls.take i);rw[←HS.out] at hu
      exact⟨hu.phase.trans (HZ.out.phase.trans HN.out),hu.reason.trans (HZ.out.reason.trans HN.out)⟩)
     obtain⟨bp,hbp⟩:=H2.out.SQ (by show 0<ph.xs.length;rw[UD.out.1];omega);obtain⟨d3,d4⟩:=H2.out.SS hbp (jy ph.xs v (by rw[UD.out.1];exact hln));have c3:=H2.out.Kq;rw[hbp,show (M.ig ph va re a b c).phase.xs.length=N from UD.out.1] at c3;simp only[Option.map_some,vL,vB] at c3 d2 d3;have n1:¬ bp=p:=H2.out.aaI hbp;have hl2:l<1000000:=by omega
     have HV:=zH (fun (V:World)=>pQ l V hl2);rw[hv] at HV;have hb:=vO l (by omega);obtain⟨q,hq⟩:∃ q,((l % 2:Nat)==0)=q:=⟨_,rfl⟩
     have hbq:(bits BinOp.and IntKind.u32 (l:Int) 1==0)=q:=by
      rw[hb,←hq];rcases Nat.mod_two_eq_zero_or_one l with e | e <;> rw[e] <;> rfl
     have qQ:=zH hval;have i0:(0:Int)≤(i:Int):=by omega
     have v0:(0:Int)≤(v:Int):=by omega
     have v1:(v:Int)<(N:Int):=by omega
     have HQ:=zH hq;have Qv:=zH hv;have Db:=zH hl;clear hget hHI hval hb hq hv hl
     go_wp2
     go_still_tail 10,(by kernel_rfl)
     still_call ((HV.out _).mono fun e w' h=>⟨h.1,h.2.symm⟩)
     repeat still_step
     refine wpStill_nil ?_;change wpList _ _ _ _ _ wr.drew
     go_wp2
     have h3:At B w0 (wr.setCell ⟨bp,v,none⟩ (.bool q)).drew p (M.ig ⟨ph.a,ph.c,ph.xs.set v q⟩ va re a b c) F:=(H2.out.Ur hbp (by show v<ph.xs.length;rw[UD.out.1];exact hln) q).drewN 1;clear c3 d2 d3 d4 hbp n1;revert h3;generalize (wr.setCell ⟨bp,v,none⟩ (.bool q)).drew=w1;intro h3;obtain⟨bv,hbv⟩:=h3.zq (by show 0<va.xs.length;rw[qQ.out];omega);obtain⟨br,hbr⟩:=h3.uF (by show 0<re.xs.length;rw[UD.out.2];omega);obtain⟨d5,d6⟩:=h3.zu hbv (i:=v) (gT va.xs v (by rw[qQ.out];exact hln));obtain⟨d7,d8⟩:=h3.qK hbr (i:=v) (gT re.xs v (by rw[UD.out.2];exact hln));have c5:=h3.kI;have c6:=h3.nO;rw[hbv,show (M.ig ⟨ph.a,ph.c,ph.xs.set v q⟩ va re a b c).value.xs.length=N from qQ.out] at c5;rw[hbr,show (M.ig ⟨ph.a,ph.c,ph.xs.set v q⟩ va re a b c).reason.xs.length=N from UD.out.2] at c6;simp only[Option.map_some,v8,vI] at c5 c6 d5 d7;have m1:¬ bv=br:=h3.Ti (i:=1) (j:=3) rfl rfl (by decide) hbv hbr
     have m2:¬ br=bv:=fun e=>m1 e.symm;have m3:¬ bv=p:=h3.SL hbv;have m4:¬ br=p:=h3.D6 hbr;have H3:=zH h3;clear h3
     go_still_tail 13,(by kernel_rfl)
     still_call ((HV.out _).mono fun e w' h=>⟨h.1,h.2.symm⟩)
     repeat still_step
     still_call ((HV.out _).mono fun e w' h=>⟨h.1,h.2.symm⟩)
     repeat still_step
     refine wpStill_nil ?_;change wpList _ _ _ _ _ w1.drew
     go_wp2
     have h4:At B w0 ((w1.setCell ⟨bv,v,none⟩ (.int .i8 0)).setCell ⟨br,v,none⟩ (.int .i64 (-1))).drew p (M.ig ⟨ph.a,ph.c,ph.xs.set v q⟩ ⟨va.a,va.c,va.xs.set v 0⟩ ⟨re.a,re.c,re.xs.set v (-1)⟩ a b c) F :=
      ((H3.out.vJ hbv (i:=v) (by show v<va.xs.length;rw[qQ.out];exact hln) 0).wV (M:=M.ig ⟨ph.a,ph.c,ph.xs.set v q⟩ ⟨va.a,va.c,va.xs.set v 0⟩ re a b c) hbr (i:=v) (by show v<re.xs.length;rw[UD.out.2];exact hln) (-1)).drewN 1
     clear c5 c6 d5 d6 d7 d8 hbv hbr m1 m2 m3 m4;revert h4;generalize ((w1.setCell ⟨bv,v,none⟩ (.int .i8 0)).setCell ⟨br,v,none⟩ (.int .i64 (-1))).drew=w2;intro h4;have agw:=zH (fun hz=>agv.out.room (v:=v) (by show v<va.xs.length;rw[qQ.out];exact hln) hz)
     have hb2:HB (MM.sv (M.ig ⟨ph.a,ph.c,ph.xs.set v q⟩ ⟨va.a,va.c,va.xs.set v 0⟩ ⟨re.a,re.c,re.xs.set v (-1)⟩ a b c)):=by
      have h9:=agv.out.hb;have hlen:(va.xs.set v 0).length=va.xs.length:=by simp
      exact⟨by show (va.xs.set v 0).length≤_;rw[hlen];exact h9.small,fun x hx=>by show x<(va.xs.set v 0).length;rw[hlen];exact h9.vars x hx,by show _=(va.xs.set v 0).length;rw[hlen];exact h9.place,by show _=(va.xs.set v 0).length;rw[hlen];exact h9.met,by show _≤(va.xs.set v 0).length;rw[hlen];exact h9.hl⟩
     have Uz:=zH (Tj v (h4.drewN 1) hb2 (by show v<(va.xs.set v 0).length;rw[List.length_set,qQ.out];exact hln) (fun hz=>by show a.xs.length<(va.xs.set v 0).length;rw[List.length_set];exact agw.out hz))
     have HUN:=zH (show (MM.sv (M.ig ⟨ph.a,ph.c,ph.xs.set v q⟩ ⟨va.a,va.c,va.xs.set v 0⟩ ⟨re.a,re.c,re.xs.set v (-1)⟩ a b c)).put v=M.sv.dS (ls.take (i+1)) by
      have h1:ls.take (i+1)=ls.take i++[l]:=by rw[List.take_succ_eq_append_getElem (by rw[LU.out];exact hin),←fD,Db.out]
      rw[h1,mR,←HS.out,←HQ.out,←Qv.out]
      rfl)
     clear hb2 h4
     go_still_tail 5,(by kernel_rfl)
     still_call ((HV.out _).mono fun e w' h=>⟨h.1,h.2.symm⟩)
     repeat still_step
     refine wpStill_nil ?_;change wpList _ _ _ _ _ w2.drew
     go_wp2_with fail
     refine Uz.out.mono ?_
     rintro e w5 ⟨rfl,a2,b2,c2',h5,h6⟩
     have H5:=zH h5;have H6:=zH (h6.trans HUN.out);clear h5 h6 Uz
     go_wp2
     go_roundg (nt-from_-(i+1))
     case measure=>have:=hg.out;omega
     case rel=>exact⟨i+1,_,_,_,a2,b2,c2',by go_num,by omega,rfl,H5.out,H6.out⟩
    ·obtain rfl:i=nt-from_:=by omega
     have hs1:=HS.out;rw[List.take_of_length_le (by rw[LU.out];exact Nat.le_refl _)] at hs1;have yw:=zH hs1;have c7:=H2.out.jV;have c8:=H2.out.qo;have f7:=H2.out.fz;rw[show (M.ig ph va re a b c).trail.a=some bt from HBT.out,show (M.ig ph va re a b c).trail.xs.length=nt from wJ.out,show (M.ig ph va re a b c).trail.c=ct from HCT.out] at c7;rw[show (M.ig ph va re a b c).ends.a=some be from HBE.out,show (M.ig ph va re a b c).ends.xs.length=ne from tL.out,show (M.ig ph va re a b c).ends.c=ce from HCE.out] at c8;simp only[Option.map_some] at c7 c8;have f71:=f7 12;have f72:=f7 13;have f73:=f7 14;have c9:=H2.out.Bf;clear hs1 f7
     go_wp2
     go_region
     go_wp2
     go_end0
     refine⟨rfl,ph,va,re,a,b,c,⟨M.trail.a,M.trail.c,M.trail.xs.take from_⟩,⟨M.ends.a,M.ends.c,M.ends.xs.take k⟩,from_,?_,?_⟩
     ·have h1:=((H2.out.Bh (n:=from_) (by show from_≤M.trail.xs.length;rw[wJ.out];exact hfr)).D8 (M:=(M.ig ph va re a b c).kF ⟨M.trail.a,M.trail.c,M.trail.xs.take from_⟩) (n:=k) (by show k≤M.ends.xs.length;rw[tL.out];omega)).uD from_;have h2:=h1.drewN 1;rw[show (M.ig ph va re a b c).trail.a=some bt from HBT.out,show (M.ig ph va re a b c).trail.c=ct from HCT.out,show ((M.ig ph va re a b c).kF ⟨M.trail.a,M.trail.c,M.trail.xs.take from_⟩).ends.a=some be from HBE.out,show ((M.ig ph va re a b c).kF ⟨M.trail.a,M.trail.c,M.trail.xs.take from_⟩).ends.c=ce from HCE.out] at h2;rw[show M.trail.a=some bt from HBT.out,show M.trail.c=ct from HCT.out,show M.ends.a=some be from HBE.out,show M.ends.c=ce from HCE.out];exact h2
     ·rw[HBK.out,←yw.out];rfl
theorem MB (k:Nat) (h:At B w0 w p M F) (hh:bG M.sv) (hz:Sz M.sv) (ht:∀ l∈M.trail.xs,l/2<M.value.xs.length) (htl:M.trail.xs.length≤1000000) (hel:M.ends.xs.length≤1000000) (he:k<M.ends.xs.length→gn M.ends.xs k≤M.trail.xs.length) (hk:k≤1000000) :
  Calls Tryz.prog 69 #[.pointer (some ⟨p,0,none⟩),.int .i64 k] w fun e w'=>e=.returned (.tuple #[]) ∧
   ∃ ph va re a b c tr en nx,At B w0 w' p (M.yj ph va re a b c tr en nx) F∧MM.sv (M.yj ph va re a b c tr en nx)=M.sv.back k:=(I9 k h hh hz ht htl hel he hk).calls
theorem Qw (k:Nat) (h:At B w0 w p M F) (hh:bG M.sv) (hz:Sz M.sv) (ht:∀ l∈M.trail.xs,l/2<M.value.xs.length) (htl:M.trail.xs.length≤1000000) (hel:M.ends.xs.length≤1000000) (he:k<M.ends.xs.length→gn M.ends.xs k≤M.trail.xs.length) (hk:k≤1000000) (u:FrameMode) :
  CallsD Tryz.prog 69 #[.pointer (some ⟨p,0,none⟩),.int .i64 k] u w fun e u' w'=>u'=u∧e=.returned (.tuple #[]) ∧
   ∃ ph va re a b c tr en nx,At B w0 w' p (M.yj ph va re a b c tr en nx) F∧MM.sv (M.yj ph va re a b c tr en nx)=M.sv.back k:=(I9 k h hh hz ht htl hel he hk).deferred u
end
end Go.Proofs.YthbbmdnfkkffjaaGreat
