/-
  Parts of the proof, joined by program: HpI.
-/
import Derived.Test.YthbbmdnfkkffjaaGreatZ06
namespace Go.Proofs.YthbbmdnfkkffjaaGreat
open Go.Proofs.PlaitPure Go.Proofs.PlaitSat
structure HInv (S:SM):Prop where
 hb:HB S
 pl:∀ i,i<S.hl.length→gn S.place (gn S.hl i)=i+1
 bk:∀ v,v<S.value.length→gn S.place v≠0→gn S.place v≤S.hl.length∧gn S.hl (gn S.place v-1)=v
theorem gn_set_eq {l:List Nat} {i v:Nat} (h:i<l.length):gn (l.set i v) i=v:=by simp[gn,List.getD_eq_getElem?_getD,h]
theorem gn_set_ne {l:List Nat} {i j v:Nat} (h:i≠j):gn (l.set i v) j=gn l j:=by simp[gn,List.getD_eq_getElem?_getD,List.getElem?_set_ne h]
theorem gn_set {l:List Nat} {i j v:Nat} (h:i<l.length):gn (l.set i v) j=if j=i then v else gn l j:=by
 split
 ·rename_i e;rw[e,gn_set_eq h]
 ·rename_i e;rw[gn_set_ne (fun h=>e h.symm)]
theorem gn_app_left {l m:List Nat} {i:Nat} (h:i<l.length):gn (l++m) i=gn l i:=by simp[gn,List.getD_eq_getElem?_getD,List.getElem?_append_left h]
theorem gn_app_right {l m:List Nat} {i:Nat} (h:l.length≤i):gn (l++m) i=gn m (i-l.length):=by simp[gn,List.getD_eq_getElem?_getD,List.getElem?_append_right h]
theorem gn_take {l:List Nat} {n i:Nat} (h:i<n):gn (l.take n) i=gn l i:=by simp[gn,List.getD_eq_getElem?_getD,h]
theorem HInv.inj {S:SM} (h:HInv S) {i j:Nat} (hi:i<S.hl.length) (hj:j<S.hl.length) (e:gn S.hl i=gn S.hl j):i=j:=by
 have h1:=h.pl i hi
 have h2:=h.pl j hj
 rw[e] at h1
 omega
theorem HInv.lt {S:SM} (h:HInv S) {i:Nat} (hi:i<S.hl.length):gn S.hl i<S.value.length:=h.hb.vars _ (gn_mem _ _ hi)
theorem HInv.swap {T:SM} (h:HInv T) {i j:Nat} (hi:i<T.hl.length) (hj:j<T.hl.length) (hij:i≠j) :
  HInv { T with hl:=(T.hl.set i (gn T.hl j)).set j (gn T.hl i),place:=(T.place.set (gn T.hl j) (i+1)).set (gn T.hl i) (j+1) }:=by
 have hne:gn T.hl i≠gn T.hl j:=fun e=>hij (h.inj hi hj e)
 have li:=h.lt hi
 have lj:=h.lt hj
 have hp:=h.hb.place
 refine⟨⟨h.hb.small,?_,?_,h.hb.met,?_⟩,?_,?_⟩
 ·intro x hx
  rcases List.mem_or_eq_of_mem_set hx with h1 | rfl
  ·rcases List.mem_or_eq_of_mem_set h1 with h2 | rfl
   ·exact h.hb.vars x h2
   ·exact lj
  ·exact li
 ·simp[hp]
 ·simpa using h.hb.hl
 ·intro k hk
  simp only[List.length_set] at hk
  simp only
  rw[gn_set (l:=T.hl.set i (gn T.hl j)) (by simpa using hj)]
  by_cases e1:k=j
  ·subst e1
   rw[if_pos rfl,gn_set_eq (by simp[hp];exact li)]
  ·rw[if_neg e1,gn_set (l:=T.hl) hi]
   by_cases e2:k=i
   ·subst e2
    rw[if_pos rfl,gn_set_ne (by exact hne),gn_set_eq (by rw[hp];exact lj)]
   ·rw[if_neg e2,gn_set_ne (fun e=>e2 (h.inj hk hi e.symm)),gn_set_ne (fun e=>e1 (h.inj hk hj e.symm))]
    exact h.pl k hk
 ·intro v hv hz
  simp only at hv hz ⊢
  rw[gn_set (by simp[hp];exact li)] at hz ⊢
  by_cases e1:v=gn T.hl i
  ·rw[if_pos e1]
   refine⟨by simp;omega,?_⟩
   rw[Nat.add_sub_cancel,gn_set_eq (by simpa using hj),e1]
  ·rw[if_neg e1] at hz ⊢
   rw[gn_set (by rw[hp];exact lj)] at hz ⊢
   by_cases e2:v=gn T.hl j
   ·rw[if_pos e2]
    refine⟨by simp;omega,?_⟩
    rw[Nat.add_sub_cancel,gn_set_ne (fun e=>hij e.symm),gn_set_eq hi,e2]
   ·rw[if_neg e2] at hz ⊢
    obtain⟨b1,b2⟩:=h.bk v hv hz
    refine⟨by simpa using b1,?_⟩
    rw[gn_set_ne (fun e=>e2 (by rw[←b2,e])),gn_set_ne (fun e=>e1 (by rw[←b2,e]))]
    exact b2
theorem set_set_same {l:List Nat} {i a b:Nat}:(l.set i a).set i b=l.set i b:=by simp
theorem HInv.move {S:SM} {i j v:Nat} (h:HInv (S.lay i v)) (hi:i<S.hl.length) (hj:j<S.hl.length) (hij:i≠j):HInv ((S.lay i (gn S.hl j)).lay j v):=by
 have hi':i<(S.lay i v).hl.length:=by show i<(S.hl.set i v).length;simpa using hi
 have hj':j<(S.lay i v).hl.length:=by show j<(S.hl.set i v).length;simpa using hj
 have h1:=h.swap hi' hj' hij
 have e1:gn (S.lay i v).hl i=v:=gn_set_eq hi
 have e2:gn (S.lay i v).hl j=gn S.hl j:=gn_set_ne hij
 rw[e1,e2] at h1
 have hne:v≠gn S.hl j:=fun e=>hij (h.inj hi' hj' (by rw[e1,e2,e]))
 have e3:({ S.lay i v with hl:=((S.lay i v).hl.set i (gn S.hl j)).set j v,place:=((S.lay i v).place.set (gn S.hl j) (i+1)).set v (j+1) }:SM)=(S.lay i (gn S.hl j)).lay j v:=by
  show ({ S with hl:=((S.hl.set i v).set i (gn S.hl j)).set j v,place:=((S.place.set v (i+1)).set (gn S.hl j) (i+1)).set v (j+1) }:SM)={ S with hl:=(S.hl.set i (gn S.hl j)).set j v,place:=(S.place.set (gn S.hl j) (i+1)).set v (j+1) }
  rw[set_set_same,List.set_comm _ _ hne,set_set_same]
 rw[e3] at h1
 exact h1
theorem HInv.upGo:∀ (f:Nat) {S:SM} {v i:Nat},HInv (S.lay i v)→i<S.hl.length→HInv (SM.upGo f S v i)
 | 0,S,v,i,h,_=>h
 | f+1,S,v,i,h,hi=>by
  rw[SM.upGo]
  split
  ·rename_i hc
   simp only[Bool.and_eq_true,decide_eq_true_eq] at hc
   exact HInv.upGo f (h.move hi (by omega) (by omega)) (by show _<(S.hl.set _ _).length;rw[List.length_set];omega)
  ·exact h
theorem child_cases (S:SM) (i:Nat) (h:¬ S.hl.length≤2*i+1):i<S.child i∧S.child i<S.hl.length:=by
 unfold SM.child
 split
 ·rename_i hc
  simp only[Bool.and_eq_true,decide_eq_true_eq] at hc
  omega
 ·omega
theorem HInv.downGo:∀ (f:Nat) {S:SM} {v i:Nat},HInv (S.lay i v)→i<S.hl.length→HInv (SM.downGo f S v i)
 | 0,S,v,i,h,_=>h
 | f+1,S,v,i,h,hi=>by
  rw[SM.downGo]
  split
  ·exact h
  ·rename_i hl
   obtain⟨c1,c2⟩:=child_cases S i hl
   split
   ·exact HInv.downGo f (h.move hi c2 (by omega)) (by show _<(S.hl.set _ _).length;rw[List.length_set];exact c2)
   ·exact h
theorem HInv.layself {S:SM} (h:HInv S) {i:Nat} (hi:i<S.hl.length):S.lay i (gn S.hl i)=S:=by
 have e1:S.hl.set i (gn S.hl i)=S.hl:=by
  apply List.ext_getElem?
  intro k
  by_cases e:k=i
  ·subst e;rw[gn_some S.hl k hi];simp[hi]
  ·rw[List.getElem?_set_ne (fun h=>e h.symm)]
 have e2:S.place.set (gn S.hl i) (i+1)=S.place:=by
  have hp:=h.hb.place
  have hl:=h.lt hi
  apply List.ext_getElem?
  intro k
  by_cases e:k=gn S.hl i
  ·subst e
   rw[gn_some S.place _ (by omega),h.pl i hi,List.getElem?_set_self (by omega)]
  ·rw[List.getElem?_set_ne (fun h=>e h.symm)]
 show ({ S with hl:=S.hl.set i (gn S.hl i),place:=S.place.set (gn S.hl i) (i+1) }:SM)=S
 rw[e1,e2]
theorem HInv.up {S:SM} (h:HInv S) {i:Nat} (hi:i<S.hl.length):HInv (S.up i):=HInv.upGo _ (by rw[h.layself hi];exact h) hi
theorem HInv.down {S:SM} (h:HInv S) {i:Nat} (hi:i<S.hl.length):HInv (S.down i):=HInv.downGo _ (by rw[h.layself hi];exact h) hi
theorem HInv.notin {S:SM} (h:HInv S) {v:Nat} (hz:gn S.place v=0):v∉S.hl:=fun hm=>by
 obtain⟨i,hi,e⟩:=List.getElem_of_mem hm
 have:=h.pl i hi
 rw[gn_eq _ _ hi,e,hz] at this
 omega
theorem HInv.nodup {S:SM} (h:HInv S):S.hl.Nodup:=by
 rw[List.nodup_iff_pairwise_ne,List.pairwise_iff_getElem]
 intro a b ha hb hab e
 have:=h.inj ha hb (by rw[gn_eq _ _ ha,gn_eq _ _ hb];exact e)
 omega
theorem nodup_sub {d L:List Nat} (hn:d.Nodup) (h:∀ x∈d,x∈L):d.length≤L.length:=by
 induction d generalizing L with
 | nil=>simp
 | cons x r ih =>
  rw[List.nodup_cons] at hn
  have hx:=h x (by simp)
  have:=ih (L:=L.erase x) hn.2 fun y hy=>(List.mem_erase_of_ne (fun (e:y=x)=>hn.1 (e▸hy))).2 (h y (by simp[hy]))
  rw[List.length_erase_of_mem hx] at this
  have:=List.length_pos_of_mem hx
  simp only[List.length_cons]
  omega
theorem HInv.room {S:SM} (h:HInv S) {v:Nat} (hv:v<S.value.length) (hz:gn S.place v=0):S.hl.length<S.value.length:=by
 have h1:(v :: S.hl).Nodup:=List.nodup_cons.2 ⟨h.notin hz,h.nodup⟩
 have:=nodup_sub h1 (L:=List.range S.value.length) fun x hx=>by
  rw[List.mem_range]
  rcases List.mem_cons.1 hx with rfl | hx
  ·exact hv
  ·exact h.hb.vars x hx
 simp at this
 omega
theorem HInv.put {S:SM} (h:HInv S) {v:Nat} (hv:v<S.value.length):HInv (S.put v):=by
 unfold SM.put
 split
 ·rename_i hz
  have hr:=h.room hv hz
  have hp:=h.hb.place
  have hg:gn (S.hl++[v]) S.hl.length=v:=by rw[gn_app_right (Nat.le_refl _)];simp[gn]
  refine HInv.upGo _ ?_ (by simp)
  have hset:(S.hl++[v]).set S.hl.length v=S.hl++[v]:=by simp
  have e:SM.lay { S with hl:=S.hl++[v] } S.hl.length (gn (S.hl++[v]) S.hl.length)={ S with hl:=S.hl++[v],place:=S.place.set v (S.hl.length+1) }:=by
   rw[hg]
   show ({ S with hl:=(S.hl++[v]).set S.hl.length v,place:=S.place.set v (S.hl.length+1) }:SM)=_
   rw[hset]
  show HInv (SM.lay { S with hl:=S.hl++[v] } S.hl.length (gn (S.hl++[v]) S.hl.length))
  rw[e]
  refine⟨⟨h.hb.small,fun x hx=>?_,by simp[hp],h.hb.met,by simp;omega⟩,fun i hi=>?_,fun u hu hz'=>?_⟩
  ·rcases List.mem_append.1 hx with hx | hx
   ·exact h.hb.vars x hx
   ·rw[List.mem_singleton.1 hx];exact hv
  ·simp only[List.length_append,List.length_singleton] at hi
   simp only
   by_cases e1:i<S.hl.length
   ·rw[gn_app_left e1,gn_set_ne (fun e=>h.notin hz (by rw[e];exact gn_mem _ _ e1))]
    exact h.pl i e1
   ·have:i=S.hl.length:=by omega
    subst this
    rw[hg,gn_set_eq (by omega)]
  ·simp only at hu hz' ⊢
   rw[gn_set (by omega)] at hz' ⊢
   by_cases e1:u=v
   ·rw[if_pos e1]
    refine⟨by simp,?_⟩
    rw[Nat.add_sub_cancel,hg,e1]
   ·rw[if_neg e1] at hz' ⊢
    obtain⟨b1,b2⟩:=h.bk u hu hz'
    refine⟨by simp;omega,?_⟩
    rw[gn_app_left (by omega)]
    exact b2
 ·exact h
theorem HInv.bump {S:SM} (h:HInv S) {v:Nat}:HInv (S.bump v):=⟨⟨h.hb.small,h.hb.vars,h.hb.place,by show (S.met.set _ _).length=_;rw[List.length_set];exact h.hb.met,h.hb.hl⟩,h.pl,h.bk⟩
theorem HInv.place_lt {S:SM} (h:HInv S) {v:Nat} (hv:v<S.value.length):∀ x,gn S.place v=x+1→x<S.hl.length:=fun x hx=>by
 have:=(h.bk v hv (by omega)).1
 omega
theorem HInv.meet {S:SM} (h:HInv S) {v:Nat} (hv:v<S.value.length):HInv (S.meet v):=by
 unfold SM.meet
 split
 ·exact h.bump
 ·rename_i hz
  exact h.bump.up (by have:=(h.bk v hv hz).1;show gn S.place v-1<S.hl.length;omega)
theorem HInv.taken {S:SM} (h:HInv S) (hl:S.hl.length≠0):HInv S.taken:=by
 have hp:=h.hb.place
 have h0:=h.lt (i:=0) (by omega)
 unfold SM.taken
 split
 ·rename_i h1
  refine⟨⟨h.hb.small,fun x hx=>(by cases hx),by simp[hp],h.hb.met,Nat.zero_le _⟩,fun i hi=>absurd hi (Nat.not_lt_zero _),fun v hv hz=>?_⟩
  simp only at hv hz
  rw[gn_set (by omega)] at hz
  by_cases e1:v=gn S.hl 0
  ·rw[if_pos e1] at hz;exact absurd rfl hz
  ·rw[if_neg e1] at hz
   obtain⟨b1,b2⟩:=h.bk v hv hz
   have:gn S.place v-1=0:=by omega
   rw[this] at b2
   exact absurd b2.symm e1
 ·rename_i h1
  have hm:=h.lt (i:=S.hl.length-1) (by omega)
  have hne:gn S.hl (S.hl.length-1)≠gn S.hl 0:=fun e=>by have:=h.inj (by omega) (by omega) e;omega
  have key:HInv (SM.lay { S with hl:=S.hl.take (S.hl.length-1),place:=S.place.set (gn S.hl 0) 0 } 0 (gn S.hl (S.hl.length-1))):=by
   have hlen:(S.hl.take (S.hl.length-1)).length=S.hl.length-1:=by rw[List.length_take];omega
   refine⟨⟨h.hb.small,?_,?_,h.hb.met,?_⟩,?_,?_⟩
   ·intro x hx
    rcases List.mem_or_eq_of_mem_set hx with h2 | rfl
    ·exact h.hb.vars x (List.mem_of_mem_take h2)
    ·exact hm
   ·show ((S.place.set (gn S.hl 0) 0).set _ _).length=_
    rw[List.length_set,List.length_set]
    exact hp
   ·show ((S.hl.take (S.hl.length-1)).set 0 _).length≤_
    rw[List.length_set,hlen]
    have:S.hl.length≤S.value.length:=h.hb.hl
    show S.hl.length-1≤S.value.length
    omega
   ·intro i hi
    have hi':i<S.hl.length-1:=by
     have:i<((S.hl.take (S.hl.length-1)).set 0 (gn S.hl (S.hl.length-1))).length:=hi
     rwa [List.length_set,hlen] at this
    show gn ((S.place.set (gn S.hl 0) 0).set (gn S.hl (S.hl.length-1)) (0+1)) (gn ((S.hl.take (S.hl.length-1)).set 0 (gn S.hl (S.hl.length-1))) i)=i+1
    rw[gn_set (l:=S.hl.take (S.hl.length-1)) (by omega)]
    by_cases e1:i=0
    ·subst e1
     rw[if_pos rfl,gn_set_eq (by simp[hp];omega)]
    ·rw[if_neg e1,gn_take (by omega),gn_set_ne (fun e=>by have:=h.inj (by omega) (by omega) e;omega),gn_set_ne (fun e=>by have:=h.inj (by omega) (by omega) e;omega)]
     exact h.pl i (by omega)
   ·intro v hv hz
    have hz':gn ((S.place.set (gn S.hl 0) 0).set (gn S.hl (S.hl.length-1)) (0+1)) v≠0:=hz
    show gn ((S.place.set (gn S.hl 0) 0).set (gn S.hl (S.hl.length-1)) (0+1)) v≤((S.hl.take (S.hl.length-1)).set 0 (gn S.hl (S.hl.length-1))).length∧gn ((S.hl.take (S.hl.length-1)).set 0 (gn S.hl (S.hl.length-1))) (gn ((S.place.set (gn S.hl 0) 0).set (gn S.hl (S.hl.length-1)) (0+1)) v-1)=v
    rw[gn_set (l:=S.place.set (gn S.hl 0) 0) (by simp[hp];omega)] at hz' ⊢
    rw[List.length_set,hlen]
    by_cases e1:v=gn S.hl (S.hl.length-1)
    ·rw[if_pos e1]
     refine⟨by omega,?_⟩
     rw[gn_set_eq (by omega),e1]
    ·rw[if_neg e1] at hz' ⊢
     rw[gn_set (by omega)] at hz' ⊢
     by_cases e2:v=gn S.hl 0
     ·rw[if_pos e2] at hz';exact absurd rfl hz'
     ·rw[if_neg e2] at hz' ⊢
      obtain⟨b1,b2⟩:=h.bk v hv hz'
      have hx:gn S.place v-1≠S.hl.length-1:=fun e=>by rw[e] at b2;exact e1 b2.symm
      have hy:gn S.place v-1≠0:=fun e=>by rw[e] at b2;exact e2 b2.symm
      refine⟨by omega,?_⟩
      rw[gn_set_ne (fun e=>hy e.symm),gn_take (by omega)]
      exact b2
  exact key.down (by show 0<((S.hl.take (S.hl.length-1)).set 0 _).length;rw[List.length_set,List.length_take];omega)
theorem HInv.take {S:SM} (h:HInv S):HInv S.take.1:=by
 unfold SM.take
 split
 ·exact h
 ·rename_i hl;exact h.taken hl
theorem HInv.sift:∀ (n:Nat) {S:SM},HInv S→n≤S.hl.length→HInv (SM.sift n S)
 | 0,S,h,_=>h
 | n+1,S,h,hn=>HInv.sift n (h.down (by omega)) (by rw[show (S.down n).hl.length=S.hl.length from downGo_hl _];omega)
theorem HInv.fade {S:SM} (h:HInv S):HInv S.fade:=by
 unfold SM.fade
 refine HInv.sift _ ⟨⟨h.hb.small,h.hb.vars,h.hb.place,by show (S.met.map (·/2)).length=_;rw[List.length_map];exact h.hb.met,h.hb.hl⟩,h.pl,h.bk⟩ ?_
 show S.hl.length/2≤S.hl.length
 omega
end Go.Proofs.YthbbmdnfkkffjaaGreat
