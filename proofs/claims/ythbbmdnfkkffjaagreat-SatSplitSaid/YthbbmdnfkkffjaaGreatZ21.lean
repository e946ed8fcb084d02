/-
  Parts of the proof, joined by program: Pi1, Pi2, Pi3.
-/
import Derived.Test.YthbbmdnfkkffjaaGreatZ20
namespace Go.Proofs.YthbbmdnfkkffjaaGreat
open Go.Proofs.PlaitPure Go.Proofs.PlaitSat
theorem negL_half (l:Nat):negL l/2=l/2:=by unfold negL;split <;> omega
theorem negL_negL (l:Nat):negL (negL l)=l:=by unfold negL;split <;> split <;> omega
theorem negL_ne (l:Nat):negL l≠l:=by unfold negL;split <;> omega
theorem negL_two {l:Nat} (h:2≤l):2≤negL l:=by unfold negL;split <;> omega
theorem negL_odd (l:Nat):negL l % 2=1↔¬ l % 2=1:=by unfold negL;split <;> omega
theorem lit_cases {l m:Nat} (h:l/2=m/2):l=m∨l=negL m:=by unfold negL;split <;> omega
theorem isL_neg (S:SM) (l:Nat):S.isL (negL l)=-S.isL l:=by
 unfold SM.isL
 rw[negL_half]
 by_cases h:l % 2=1
 ·rw[if_pos h,if_neg (fun k=>(negL_odd l).1 k h)];omega
 ·rw[if_neg h,if_pos ((negL_odd l).2 h)]
theorem isL_zero {S:SM} {l:Nat}:S.isL l=0↔gi S.value (l/2)=0:=by unfold SM.isL;split <;> omega
theorem pgi_set {l:List Int} {i j:Nat} {v:Int} (h:i<l.length):gi (l.set i v) j=if j=i then v else gi l j:=by
 by_cases e:j=i
 ·subst e;simp[gi,List.getD_eq_getElem?_getD,h]
 ·rw[if_neg e];simp[gi,List.getD_eq_getElem?_getD,List.getElem?_set_ne (Ne.symm e)]
theorem pgi_out {l:List Int} {i:Nat} (h:l.length≤i):gi l i=0:=by simp[gi,List.getD_eq_getElem?_getD,List.getElem?_eq_none h]
theorem pgn_out {l:List Nat} {i:Nat} (h:l.length≤i):gn l i=0:=by simp[gn,List.getD_eq_getElem?_getD,List.getElem?_eq_none h]
theorem mem_gn {l:List Nat} {x:Nat} (h:x∈l):∃ i,i<l.length∧gn l i=x:=by
 obtain⟨i,hi,e⟩:=List.getElem_of_mem h
 exact⟨i,hi,by rw[gn_eq l i hi,e]⟩
theorem gn_last {l:List Nat} {x:Nat}:gn (l++[x]) l.length=x:=by rw[gn_app_right (Nat.le_refl _)];simp[gn]
theorem Val3.cases {x:Int} (h:Val3 x):x=1∨x=-1∨x=0:=h
theorem vals_gi {S:SM} (h:∀ x∈S.value,Val3 x) (v:Nat):Val3 (gi S.value v):=by
 by_cases hv:v<S.value.length
 ·exact h _ (by rw[gi_eq _ _ hv];exact List.getElem_mem hv)
 ·rw[pgi_out (by omega)];exact .inr (.inr rfl)
theorem isL_val {S:SM} (h:∀ x∈S.value,Val3 x) (l:Nat):S.isL l=1∨S.isL l=-1∨S.isL l=0:=by
 have:=(vals_gi h (l/2)).cases
 unfold SM.isL;split <;> omega
theorem isL_setL {S:SM} {l m:Nat} {r:Int} (h:l/2<S.value.length):(S.setL l r).isL m=if m=l then 1 else if m=negL l then -1 else S.isL m:=by
 unfold SM.isL SM.setL
 simp only
 rw[pgi_set h]
 by_cases e:m/2=l/2
 ·rw[if_pos e]
  rcases lit_cases e with rfl | rfl
  ·rw[if_pos rfl];split <;> rfl
  ·rw[if_neg (negL_ne l),if_pos rfl]
   have:=negL_odd l
   split <;> split <;> first | rfl | (exfalso;omega)
 ·have e1:m≠l:=fun k=>e (by rw[k])
  have e2:m≠negL l:=fun k=>e (by rw[k,negL_half])
  rw[if_neg e,if_neg e1,if_neg e2]
def levAt (S:SM) (i:Nat):Nat:=S.ends.countP (fun e=>decide (e≤i))
def Why (S:SM) (i:Nat):Prop :=
 (gi S.reason (gn S.trail i/2)=-1∧i∈S.ends) ∨
 ∃ r:Nat,gi S.reason (gn S.trail i/2)=r∧r<S.cls.length∧gn S.trail i∈S.cl r∧∀ k∈S.cl r,k≠gn S.trail i→∃ j,j<i∧gn S.trail j=negL k
structure TrI (S:SM):Prop where
 sz:Sz S
 vals:∀ x∈S.value,Val3 x
 two:∀ i,i<S.trail.length→2≤gn S.trail i
 lt:∀ i,i<S.trail.length→gn S.trail i/2<S.value.length
 is:∀ i,i<S.trail.length→S.isL (gn S.trail i)=1
 lev:∀ i,i<S.trail.length→gn S.level (gn S.trail i/2)=levAt S i
 inj:∀ i j,i<S.trail.length→j<S.trail.length→gn S.trail i/2=gn S.trail j/2→i=j
 all:∀ v,v<S.value.length→gi S.value v≠0→∃ i,i<S.trail.length∧gn S.trail i/2=v
 ends:∀ e∈S.ends,e≤S.trail.length
 mono:S.ends.Pairwise (·≤·)
 why:∀ i,i<S.trail.length→Why S i
theorem TrI.at_true {S:SM} (h:TrI S) {l:Nat} (hl:S.isL l=1):∃ i,i<S.trail.length∧gn S.trail i=l:=by
 have hv:gi S.value (l/2)≠0:=fun e=>by rw[isL_zero.2 e] at hl;cases hl
 have hlt:l/2<S.value.length:=by
  apply Classical.byContradiction;intro k;exact hv (pgi_out (by omega))
 obtain⟨i,hi,e⟩:=h.all _ hlt hv
 rcases lit_cases e with e | e
 ·exact⟨i,hi,e⟩
 ·have:=h.is i hi
  rw[e,isL_neg,hl] at this
  cases this
theorem TrI.at_false {S:SM} (h:TrI S) {l:Nat} (hl:S.isL l=-1):∃ i,i<S.trail.length∧gn S.trail i=negL l :=
 h.at_true (by rw[isL_neg,hl];rfl)
theorem lev_top {S:SM} (h:∀ e∈S.ends,e≤S.trail.length):levAt S S.trail.length=S.ends.length:=by
 unfold levAt
 rw[List.countP_eq_length]
 intro a ha;simpa using h a ha
theorem lev_le (S:SM) (i:Nat):levAt S i≤S.ends.length:=List.countP_le_length
theorem lev_mono (S:SM) {i j:Nat} (h:i≤j):levAt S i≤levAt S j:=by
 unfold levAt
 apply List.countP_mono_left
 intro x _ hx
 simp only[decide_eq_true_eq] at hx ⊢
 omega
theorem countP_strict {l:List Nat} {i j:Nat} (h:i∈l) (hj:j<i):l.countP (fun e=>decide (e≤j))<l.countP (fun e=>decide (e≤i)):=by
 induction l with
 | nil=>cases h
 | cons a r ih =>
  rw[List.countP_cons,List.countP_cons]
  have hm:r.countP (fun e=>decide (e≤j))≤r.countP (fun e=>decide (e≤i)):=by
   apply List.countP_mono_left
   intro x _ hx
   simp only[decide_eq_true_eq] at hx ⊢
   omega
  rcases List.mem_cons.1 h with e | h
  ·subst e
   rw[if_neg (by simp;omega),if_pos (by simp)]
   omega
  ·have:=ih h
   split <;> split <;> first | omega | (rename_i a1 a2;simp only[decide_eq_true_eq] at a1 a2;omega)
theorem lev_strict {S:SM} {i j:Nat} (h:i∈S.ends) (hj:j<i):levAt S j<levAt S i:=countP_strict h hj
theorem sz_setL {S:SM} (h:Sz S) (l:Nat) (r:Int):Sz (S.setL l r):=by
 unfold SM.setL
 exact⟨by simp[h.level],by simp[h.reason],by simp[h.phase],by simp[h.occurs],by simp[h.units],by simp[h.watches]⟩
theorem setL_trail (S:SM) (l:Nat) (r:Int):(S.setL l r).trail=S.trail++[l]:=rfl
theorem setL_gn {S:SM} {l:Nat} {r:Int} {i:Nat} (h:i<S.trail.length):gn (S.setL l r).trail i=gn S.trail i:=gn_app_left h
theorem setL_top {S:SM} {l:Nat} {r:Int}:gn (S.setL l r).trail S.trail.length=l:=gn_last
theorem TrI.setL {S:SM} (h:TrI S) {l:Nat} {r:Int} (h2:2≤l) (hl:l/2<S.value.length) (h0:S.isL l=0)
  (hr:(r=-1∧S.trail.length∈S.ends)∨∃ k:Nat,r=k∧k<S.cls.length∧l∈S.cl k∧∀ x∈S.cl k,x≠l→S.isL x=-1):TrI (S.setL l r):=by
 have hn:∀ i,i<S.trail.length→gn S.trail i/2≠l/2:=fun i hi e=>by
  have h1:=h.is i hi
  have hz:=isL_zero.1 h0
  rw[←e] at hz
  rw[isL_zero.2 hz] at h1
  cases h1
 have hlen:(S.setL l r).trail.length=S.trail.length+1:=by rw[setL_trail];simp
 have hcase:∀ i,i<(S.setL l r).trail.length→i<S.trail.length∨i=S.trail.length:=fun i hi=>by omega
 have hvl:(S.setL l r).value.length=S.value.length:=by unfold SM.setL;simp
 refine⟨sz_setL h.sz l r,?_,?_,?_,?_,?_,?_,?_,?_,h.mono,?_⟩
 ·intro x hx
  rcases List.mem_or_eq_of_mem_set hx with hx | rfl
  ·exact h.vals x hx
  ·split
   ·exact .inr (.inl rfl)
   ·exact .inl rfl
 ·intro i hi
  rcases hcase i hi with hi | rfl
  ·rw[setL_gn hi];exact h.two i hi
  ·rw[setL_top];exact h2
 ·intro i hi
  rw[hvl]
  rcases hcase i hi with hi | rfl
  ·rw[setL_gn hi];exact h.lt i hi
  ·rw[setL_top];exact hl
 ·intro i hi
  rw[isL_setL hl]
  rcases hcase i hi with hi | rfl
  ·rw[setL_gn hi,if_neg (show ¬ gn S.trail i=l from fun e=>hn i hi (by rw[e])),if_neg (show ¬ gn S.trail i=negL l from fun e=>hn i hi (by rw[e,negL_half]))];exact h.is i hi
  ·rw[setL_top,if_pos rfl]
 ·intro i hi
  have hll:l/2<S.level.length:=by rw[h.sz.level];exact hl
  show gn (S.level.set (l/2) S.ends.length) _=levAt S i
  rw[gn_set hll]
  rcases hcase i hi with hi | rfl
  ·rw[setL_gn hi,if_neg (hn i hi)];exact h.lev i hi
  ·rw[setL_top,if_pos rfl];exact (lev_top h.ends).symm
 ·intro i j hi hj e
  rcases hcase i hi with hi | rfl <;> rcases hcase j hj with hj | rfl
  ·rw[setL_gn hi,setL_gn hj] at e;exact h.inj i j hi hj e
  ·rw[setL_gn hi,setL_top] at e;exact absurd e (hn i hi)
  ·rw[setL_top,setL_gn hj] at e;exact absurd e.symm (hn j hj)
  ·rfl
 ·intro v hv h1
  rw[hvl] at hv
  change gi (S.value.set (l/2) _) v≠0 at h1
  rw[pgi_set hl] at h1
  by_cases e:v=l/2
  ·exact⟨S.trail.length,by omega,by rw[setL_top,e]⟩
  ·rw[if_neg e] at h1
   obtain⟨i,hi,k⟩:=h.all v hv h1
   exact⟨i,by omega,by rw[setL_gn hi];exact k⟩
 ·intro e he
  have:=h.ends e he
  omega
 ·intro i hi
  have hrl:l/2<S.reason.length:=by rw[h.sz.reason];exact hl
  rcases hcase i hi with hi | rfl
  ·unfold Why
   rw[setL_gn hi]
   have e1:gi (S.setL l r).reason (gn S.trail i/2)=gi S.reason (gn S.trail i/2):=by
    show gi (S.reason.set (l/2) r) _=_
    rw[pgi_set hrl,if_neg (hn i hi)]
   rw[e1]
   rcases h.why i hi with a | ⟨k,a,b,c,d⟩
   ·exact .inl a
   ·exact .inr ⟨k,a,b,c,fun x hx hne=>by
     obtain⟨j,hj,e⟩:=d x hx hne
     exact⟨j,hj,by rw[setL_gn (by omega)];exact e⟩⟩
  ·unfold Why
   rw[setL_top]
   have e1:gi (S.setL l r).reason (l/2)=r:=by
    show gi (S.reason.set (l/2) r) _=_
    rw[pgi_set hrl,if_pos rfl]
   rw[e1]
   rcases hr with a | ⟨k,a,b,c,d⟩
   ·exact .inl a
   ·exact .inr ⟨k,a,b,c,fun x hx hne=>by
     obtain⟨j,hj,e⟩:=h.at_false (d x hx hne)
     exact⟨j,hj,by rw[setL_gn hj];exact e⟩⟩
end Go.Proofs.YthbbmdnfkkffjaaGreat
namespace Go.Proofs.YthbbmdnfkkffjaaGreat
open Go.Proofs.PlaitPure Go.Proofs.PlaitSat
theorem pgi_set0 {l:List Int} {i j:Nat}:gi (l.set i 0) j=if j=i then 0 else gi l j:=by
 by_cases h:i<l.length
 ·exact pgi_set h
 ·rw[List.set_eq_of_length_le (by omega)]
  split
  ·rename_i e;rw[pgi_out (by omega)]
  ·rfl
theorem TrI.open_ {S:SM} (h:TrI S):TrI S.open_:=by
 have hlv:∀ i,i<S.trail.length→levAt S.open_ i=levAt S i:=fun i hi=>by
  show (S.ends++[S.trail.length]).countP _=_
  rw[List.countP_append,List.countP_cons,List.countP_nil]
  simp only[decide_eq_true_eq]
  rw[if_neg (by omega)]
  rfl
 refine⟨⟨h.sz.level,h.sz.reason,h.sz.phase,h.sz.occurs,h.sz.units,h.sz.watches⟩,h.vals,h.two,h.lt,h.is,fun i hi=>?_,h.inj,h.all,?_,?_,fun i hi=>?_⟩
 ·rw[hlv i hi];exact h.lev i hi
 ·intro e he
  rcases List.mem_append.1 he with he | he
  ·exact h.ends e he
  ·rw[List.mem_singleton.1 he];exact Nat.le_refl _
 ·show (S.ends++[S.trail.length]).Pairwise _
  rw[List.pairwise_append]
  exact⟨h.mono,List.pairwise_singleton _ _,fun a ha b hb=>by rw[List.mem_singleton.1 hb];exact h.ends a ha⟩
 ·rcases h.why i hi with ⟨a,b⟩ | a
  ·exact .inl ⟨a,List.mem_append_left _ b⟩
  ·exact .inr a
structure UndoneBy (S T:SM) (ls:List Nat):Prop where
 undone:Undone S T
 value:∀ v,gi T.value v=if v∈ls.map (·/2) then 0 else gi S.value v
 reason:∀ v,gi T.reason v=if v∈ls.map (·/2) then -1 else gi S.reason v
 phase:∀ v,v∉ls.map (·/2)→gB T.phase v=gB S.phase v
theorem undo_by {S:SM} {l:Nat} (hr:l/2<S.reason.length):UndoneBy S (S.undo l) [l]:=by
 refine⟨undone_undo S l,fun v=>?_,fun v=>?_,fun v hv=>?_⟩
 ·rw[undo_value,pgi_set0];simp
 ·rw[undo_frame]
  show gi (S.reason.set (l/2) (-1)) v=_
  rw[pgi_set hr];simp
 ·rw[undo_frame]
  show gB (S.phase.set (l/2) _) v=_
  have:l/2≠v:=fun e=>hv (by simp[e])
  simp[gB,List.getD_eq_getElem?_getD,List.getElem?_set_ne this]
theorem snoc_ind {α:Type} {P:List α→Prop} (h0:P []) (h1:∀ l x,P l→P (l++[x])) (l:List α):P l:=by
 have:∀ m:List α,P m.reverse:=fun m=>by
  induction m with
  | nil=>exact h0
  | cons x r ih=>rw[List.reverse_cons];exact h1 _ _ ih
 have h:=this l.reverse
 rwa [List.reverse_reverse] at h
theorem undoAll_by {S:SM}:∀ (ls:List Nat),(∀ l∈ls,l/2<S.reason.length)→UndoneBy S (S.undoAll ls) ls:=by
 refine snoc_ind ?_ ?_
 ·intro _;exact⟨undone_all S [],fun v=>by simp[SM.undoAll],fun v=>by simp[SM.undoAll],fun v _=>rfl⟩
 ·intro ls l ih h
  have h1:=ih fun x hx=>h x (List.mem_append_left _ hx)
  have hrl:(S.undoAll ls).reason.length=S.reason.length:=h1.undone.reason
  have h2:=undo_by (S:=S.undoAll ls) (l:=l) (by rw[hrl];exact h l (by simp))
  rw[undoAll_snoc]
  refine⟨by rw[←undoAll_snoc];exact undone_all S _,fun v=>?_,fun v=>?_,fun v hv=>?_⟩
  ·rw[h2.value,h1.value]
   simp only[List.map_append,List.mem_append,List.map_cons,List.map_nil,List.mem_singleton]
   by_cases a:v=l/2 <;> by_cases b:v∈ls.map (·/2) <;> simp[a,b]
  ·rw[h2.reason,h1.reason]
   simp only[List.map_append,List.mem_append,List.map_cons,List.map_nil,List.mem_singleton]
   by_cases a:v=l/2 <;> by_cases b:v∈ls.map (·/2) <;> simp[a,b]
  ·rw[List.map_append,List.mem_append,not_or] at hv
   rw[h2.phase v (by simpa using hv.2),h1.phase v hv.1]
structure BackTo (S T:SM) (e k:Nat):Prop where
 same:∃ ph va re hl pl,T=SM.wBk S ph va re hl pl (S.trail.take e) (S.ends.take k) e
 value:∀ v,gi T.value v=if v∈(S.trail.drop e).map (·/2) then 0 else gi S.value v
 reason:∀ v,gi T.reason v=if v∈(S.trail.drop e).map (·/2) then -1 else gi S.reason v
 phase:∀ v,v∉(S.trail.drop e).map (·/2)→gB T.phase v=gB S.phase v
theorem mem_drop_gn {l:List Nat} {e x:Nat} (h:x∈l.drop e):∃ i,e≤i∧i<l.length∧gn l i=x:=by
 obtain⟨i,hi,k⟩:=List.getElem_of_mem h
 rw[List.length_drop] at hi
 exact⟨e+i,by omega,by omega,by rw[gn_eq l (e+i) (by omega),←k,List.getElem_drop]⟩
theorem gn_mem_drop {l:List Nat} {e i:Nat} (h:e≤i) (hi:i<l.length):gn l i∈l.drop e:=by
 rw[gn_eq l i hi]
 have:(l.drop e)[i-e]'(by rw[List.length_drop];omega)=l[i]:=by rw[List.getElem_drop];congr 1;omega
 rw[←this]
 exact List.getElem_mem _
theorem TrI.var_lt {S:SM} (h:TrI S):∀ l∈S.trail,l/2<S.value.length:=fun l hl=>by
 obtain⟨i,hi,rfl⟩:=mem_gn hl
 exact h.lt i hi
theorem back_by {S:SM} (k:Nat) (h:TrI S) (hk:k<S.ends.length):BackTo S (S.back k) (gn S.ends k) k:=by
 have hb:=undoAll_by (S:=S) (S.trail.drop (gn S.ends k)) fun l hl=>by rw[h.sz.reason];exact h.var_lt l (List.mem_of_mem_drop hl)
 unfold SM.back
 rw[if_neg (by omega)]
 obtain⟨T,hT⟩:∃ T,S.undoAll (S.trail.drop (gn S.ends k))=T:=⟨_,rfl⟩
 rw[hT] at hb ⊢
 refine⟨⟨T.phase,T.value,T.reason,T.hl,T.place,?_⟩,hb.value,hb.reason,hb.phase⟩
 have key:∀ X:SM,T=X→({ T with trail:=S.trail.take (gn S.ends k),ends:=S.ends.take k,next:=gn S.ends k }:SM)={ X with trail:=S.trail.take (gn S.ends k),ends:=S.ends.take k,next:=gn S.ends k }:=fun X e=>by rw[e]
 exact key _ hb.undone.same
theorem mono_gn {l:List Nat} (h:l.Pairwise (·≤·)) {i j:Nat} (hij:i≤j) (hj:j<l.length):gn l i≤gn l j:=by
 rw[gn_eq l i (by omega),gn_eq l j hj]
 rcases Nat.lt_or_ge i j with a | a
 ·exact List.pairwise_iff_getElem.1 h i j (by omega) hj a
 ·have:i=j:=by omega
  subst this;exact Nat.le_refl _
theorem levAt_take {l:List Nat} (h:l.Pairwise (·≤·)) {k i:Nat} (_hk:k<l.length) (hi:i<gn l k):(l.take k).countP (fun e=>decide (e≤i))=l.countP (fun e=>decide (e≤i)):=by
 conv=>rhs;rw[←List.take_append_drop k l,List.countP_append]
 have:(l.drop k).countP (fun e=>decide (e≤i))=0:=by
  rw[List.countP_eq_zero]
  intro a ha
  obtain⟨j,h1,h2,rfl⟩:=mem_drop_gn ha
  have:=mono_gn h h1 h2
  simp;omega
 omega
theorem gn_take' {l:List Nat} {n i:Nat} (h:i<n):gn (l.take n) i=gn l i:=gn_take h
theorem TrI.back {S:SM} (h:TrI S) {k:Nat} (hk:k<S.ends.length) (hz:Sz (S.back k)) (hlen:(S.back k).value.length=S.value.length):TrI (S.back k):=by
 obtain⟨hs,hv,hr,_⟩:=back_by k h hk
 obtain⟨e,he⟩:∃ e,gn S.ends k=e:=⟨_,rfl⟩
 obtain⟨T,hT⟩:∃ T,S.back k=T:=⟨_,rfl⟩
 have hee:e≤S.trail.length:=by rw[←he];exact h.ends _ (gn_mem _ _ hk)
 have hlv:∀ i,i<e→(S.ends.take k).countP (fun e=>decide (e≤i))=levAt S i:=fun i hi=>levAt_take h.mono hk (by omega)
 have hin:∀ i,i<e→i∈S.ends→i∈S.ends.take k:=fun i hi hm=>by
  obtain⟨j,hj,rfl⟩:=mem_gn hm
  have:j<k:=by
   apply Classical.byContradiction;intro hc
   have:=mono_gn h.mono (by omega:k≤j) hj
   omega
  rw[←gn_take this]
  exact gn_mem _ _ (by rw[List.length_take];omega)
 rw[hT,he] at hs hv hr
 rw[hT] at hz hlen ⊢
 have hnot:∀ i,i<e→gn S.trail i/2∉(S.trail.drop e).map (·/2):=fun i hi hm=>by
  obtain⟨x,hx,hx2⟩:=List.mem_map.1 hm
  obtain⟨j,h1,h2,rfl⟩:=mem_drop_gn hx
  have:=h.inj j i h2 (by omega) hx2
  omega
 obtain⟨ph,va,re,hl,pl,rfl⟩:=hs
 have htl:∀ i,i<(S.trail.take e).length→i<e∧i<S.trail.length:=fun i hi=>by rw[List.length_take] at hi;omega
 have hg:∀ i,i<e→gn (S.trail.take e) i=gn S.trail i:=fun i hi=>gn_take hi
 refine⟨hz,?_,?_,?_,?_,?_,?_,?_,?_,?_,?_⟩
 ·intro x hx
  obtain⟨i,hi,rfl⟩:=List.getElem_of_mem hx
  have:=hv i
  change gi va i=_ at this
  rw[gi_eq va i hi] at this
  change Val3 va[i]
  rw[this]
  split
  ·exact .inr (.inr rfl)
  ·exact vals_gi h.vals i
 ·intro i hi
  obtain⟨a,b⟩:=htl i hi
  change 2≤gn (S.trail.take e) i
  rw[hg i a];exact h.two i b
 ·intro i hi
  obtain⟨a,b⟩:=htl i hi
  rw[hlen]
  change gn (S.trail.take e) i/2<_
  rw[hg i a];exact h.lt i b
 ·intro i hi
  obtain⟨a,b⟩:=htl i hi
  have h1:=h.is i b
  have h2:=hv (gn S.trail i/2)
  rw[if_neg (hnot i a)] at h2
  change SM.isL _ (gn (S.trail.take e) i)=1
  rw[hg i a]
  unfold SM.isL at h1 ⊢
  rw[h2];exact h1
 ·intro i hi
  obtain⟨a,b⟩:=htl i hi
  change gn S.level (gn (S.trail.take e) i/2)=(S.ends.take k).countP (fun e=>decide (e≤i))
  rw[hg i a,hlv i a];exact h.lev i b
 ·intro i j hi hj
  obtain⟨a,b⟩:=htl i hi
  obtain⟨a',b'⟩:=htl j hj
  change gn (S.trail.take e) i/2=gn (S.trail.take e) j/2→_
  rw[hg i a,hg j a'];exact h.inj i j b b'
 ·intro v hvl h1
  rw[hlen] at hvl
  rw[hv v] at h1
  by_cases hm:v∈(S.trail.drop e).map (·/2)
  ·rw[if_pos hm] at h1;exact absurd rfl h1
  ·rw[if_neg hm] at h1
   obtain⟨i,hi,hvv⟩:=h.all v hvl h1
   have hie:i<e:=by
    apply Classical.byContradiction;intro hc
    exact hm (List.mem_map.2 ⟨_,gn_mem_drop (by omega) hi,hvv⟩)
   refine⟨i,by show i<(S.trail.take e).length;rw[List.length_take];omega,?_⟩
   change gn (S.trail.take e) i/2=v
   rw[hg i hie];exact hvv
 ·intro x hx
  change x∈S.ends.take k at hx
  show x≤(S.trail.take e).length
  rw[List.length_take]
  obtain⟨j,hj,rfl⟩:=mem_gn hx
  rw[List.length_take] at hj
  rw[gn_take (by omega)]
  have:=mono_gn h.mono (by omega:j≤k) hk
  omega
 ·exact h.mono.sublist (List.take_sublist _ _)
 ·intro i hi
  obtain⟨a,b⟩:=htl i hi
  have h2:=hr (gn S.trail i/2)
  rw[if_neg (hnot i a)] at h2
  unfold Why
  change (gi re (gn (S.trail.take e) i/2)=-1∧i∈S.ends.take k)∨∃ r:Nat,gi re (gn (S.trail.take e) i/2)=r∧r<S.cls.length∧gn (S.trail.take e) i∈S.cl r∧∀ x∈S.cl r,x≠gn (S.trail.take e) i→∃ j,j<i∧gn (S.trail.take e) j=negL x
  rw[hg i a]
  change gi re (gn S.trail i/2)=_ at h2
  rw[h2]
  rcases h.why i b with ⟨c,d⟩ | ⟨r,c1,c2,c3,c4⟩
  ·exact .inl ⟨c,hin i a d⟩
  ·exact .inr ⟨r,c1,c2,c3,fun x hx hne=>by
    obtain⟨j,hj,hx⟩:=c4 x hx hne
    exact⟨j,hj,by rw[hg j (by omega)];exact hx⟩⟩
end Go.Proofs.YthbbmdnfkkffjaaGreat
namespace Go.Proofs.YthbbmdnfkkffjaaGreat
open Go.Proofs.PlaitPure Go.Proofs.PlaitSat
theorem HInv.mem {S:SM} (h:HInv S) {v:Nat} (hv:v<S.value.length):v∈S.hl↔gn S.place v≠0:=by
 constructor
 ·intro hm hz;exact h.notin hz hm
 ·intro hz
  obtain⟨a,b⟩:=h.bk v hv hz
  rw[←b];exact gn_mem _ _ (by omega)
def Laid (S T:SM):Prop:=T.place.length=S.place.length∧∀ x,gn S.place x≠0→gn T.place x≠0
theorem Laid.refl (S:SM):Laid S S:=⟨rfl,fun _ h=>h⟩
theorem Laid.trans {S T U:SM} (h:Laid S T) (k:Laid T U):Laid S U:=⟨k.1.trans h.1,fun x hx=>k.2 x (h.2 x hx)⟩
theorem laid_lay (S:SM) (i v:Nat):Laid S (S.lay i v):=by
 refine⟨by show (S.place.set v (i+1)).length=_;rw[List.length_set],fun x hx=>?_⟩
 show gn (S.place.set v (i+1)) x≠0
 by_cases hv:v<S.place.length
 ·rw[gn_set hv];split
  ·omega
  ·exact hx
 ·rw[List.set_eq_of_length_le (by omega)];exact hx
theorem lay_self {S:SM} {i v:Nat} (hv:v<S.place.length):gn (S.lay i v).place v≠0:=by
 show gn (S.place.set v (i+1)) v≠0
 rw[gn_set hv,if_pos rfl];omega
theorem laid_upGo:∀ (f:Nat) (S:SM) (v i:Nat),Laid S (SM.upGo f S v i)
 | 0,S,v,i=>laid_lay S i v
 | f+1,S,v,i=>by
  rw[SM.upGo]
  split
  ·exact (laid_lay S i _).trans (laid_upGo f _ v _)
  ·exact laid_lay S i v
theorem upGo_self:∀ (f:Nat) {S:SM} {v i:Nat},v<S.place.length→gn (SM.upGo f S v i).place v≠0
 | 0,S,v,i,h=>lay_self h
 | f+1,S,v,i,h=>by
  rw[SM.upGo]
  split
  ·exact upGo_self f (by rw[(laid_lay S i _).1];exact h)
  ·exact lay_self h
theorem laid_downGo:∀ (f:Nat) (S:SM) (v i:Nat),Laid S (SM.downGo f S v i)
 | 0,S,v,i=>laid_lay S i v
 | f+1,S,v,i=>by
  rw[SM.downGo]
  split
  ·exact laid_lay S i v
  ·split
   ·exact (laid_lay S i _).trans (laid_downGo f _ v _)
   ·exact laid_lay S i v
theorem laid_sift:∀ (n:Nat) (S:SM),Laid S (SM.sift n S)
 | 0,S=>Laid.refl S
 | i+1,S=>by rw[SM.sift];exact (laid_downGo _ S _ _).trans (laid_sift i _)
theorem same_set {S T:SM} (hS:HInv S) (hT:HInv T) (hl:T.hl.length=S.hl.length) (hv:T.value.length=S.value.length) (hm:Laid S T) (x:Nat):x∈T.hl↔x∈S.hl:=by
 have hsub:∀ y∈S.hl,y∈T.hl:=fun y hy=>by
  have h1:=hS.hb.vars y hy
  exact (hT.mem (by omega)).2 (hm.2 y ((hS.mem h1).1 hy))
 refine⟨fun hx=>?_,hsub x⟩
 apply Classical.byContradiction
 intro hn
 have:=nodup_sub (d:=x :: S.hl) (L:=T.hl) (List.nodup_cons.2 ⟨hn,hS.nodup⟩) fun y hy=>by
  rcases List.mem_cons.1 hy with rfl | hy
  ·exact hx
  ·exact hsub y hy
 rw[List.length_cons] at this
 omega
structure HpAll (S:SM):Prop where
 hi:HInv S
 nz:0∉S.hl
 all:∀ v,0<v→v<S.value.length→gi S.value v=0→v∈S.hl
theorem HpAll.same {S T:SM} (h:HpAll S) (hT:HInv T) (hv:T.value=S.value) (hm:∀ x,x∈T.hl↔x∈S.hl):HpAll T :=
 ⟨hT,fun k=>h.nz ((hm 0).1 k),fun v h0 hl hz=>(hm v).2 (h.all v h0 (by rw[←hv];exact hl) (by rw[←hv];exact hz))⟩
theorem HpAll.grown {S T:SM} (h:HpAll S) (hT:HInv T) (hl:T.value.length=S.value.length) (hv:∀ v,gi S.value v≠0→gi T.value v≠0) (hm:T.hl=S.hl):HpAll T :=
 ⟨hT,by rw[hm];exact h.nz,fun v h0 hlt hz=>by rw[hm];exact h.all v h0 (by omega) (Classical.byContradiction fun k=>hv v k hz)⟩
theorem upGo_val (f:Nat) (S:SM) (v i:Nat):(SM.upGo f S v i).value=S.value:=upGo_value f
theorem downGo_frame:∀ (f:Nat) (S:SM) (v i:Nat),SM.downGo f S v i={ S with hl:=(SM.downGo f S v i).hl,place:=(SM.downGo f S v i).place }
 | 0,_,_,_=>rfl
 | f+1,S,v,i=>by
  rw[SM.downGo]
  split
  ·rfl
  ·split
   ·have:=downGo_frame f (S.lay i (gn S.hl (S.child i))) v (S.child i)
    rw[this]
    rfl
   ·rfl
structure HOnly (S T:SM):Prop where
 same:∃ a b c,T={ S with hl:=a,place:=b,met:=c }
theorem HOnly.refl (S:SM):HOnly S S:=⟨_,_,_,rfl⟩
theorem HOnly.trans {S T U:SM} (h:HOnly S T) (k:HOnly T U):HOnly S U:=by
 obtain⟨a,b,c,rfl⟩:=h.same
 obtain⟨a',b',c',rfl⟩:=k.same
 exact⟨a',b',c',rfl⟩
theorem honly_upGo (f:Nat) (S:SM) (v i:Nat):HOnly S (SM.upGo f S v i):=⟨_,_,_,upGo_frame f S v i⟩
theorem honly_downGo (f:Nat) (S:SM) (v i:Nat):HOnly S (SM.downGo f S v i):=⟨_,_,_,downGo_frame f S v i⟩
theorem honly_sift:∀ (n:Nat) (S:SM),HOnly S (SM.sift n S)
 | 0,S=>HOnly.refl S
 | i+1,S=>by rw[SM.sift];exact (honly_downGo _ S _ _).trans (honly_sift i _)
theorem honly_meet (S:SM) (v:Nat):HOnly S (S.meet v):=by
 unfold SM.meet
 have h0:HOnly S (S.bump v):=⟨_,_,_,rfl⟩
 split
 ·exact h0
 ·exact h0.trans (honly_upGo _ _ _ _)
theorem honly_fade (S:SM):HOnly S S.fade:=by
 unfold SM.fade
 exact HOnly.trans (⟨_,_,_,rfl⟩:HOnly S { S with met:=S.met.map (·/2) }) (honly_sift _ _)
theorem sift_hl:∀ (n:Nat) {S:SM},(SM.sift n S).hl.length=S.hl.length
 | 0,_=>rfl
 | i+1,S=>by rw[SM.sift,sift_hl i];exact downGo_hl _
theorem meet_set {S:SM} (h:HInv S) {v:Nat} (hv:v<S.value.length) (x:Nat):x∈(S.meet v).hl↔x∈S.hl:=by
 have hT:=h.meet hv
 refine same_set h hT ?_ ?_ ?_ x
 ·unfold SM.meet;split
  ·rfl
  ·exact upGo_hl _
 ·obtain⟨a,b,c,e⟩:=(honly_meet S v).same;rw[e]
 ·unfold SM.meet;split
  ·exact Laid.refl S
  ·exact Laid.trans (Laid.refl S) (laid_upGo _ (S.bump v) _ _)
theorem fade_set {S:SM} (h:HInv S) (x:Nat):x∈S.fade.hl↔x∈S.hl:=by
 refine same_set h h.fade ?_ ?_ ?_ x
 ·unfold SM.fade;exact sift_hl _
 ·obtain⟨a,b,c,e⟩:=(honly_fade S).same;rw[e]
 ·unfold SM.fade;exact laid_sift _ { S with met:=S.met.map (·/2) }
theorem HpAll.meet {S:SM} (h:HpAll S) {v:Nat} (hv:v<S.value.length):HpAll (S.meet v) :=
 h.same (h.hi.meet hv) (by obtain⟨a,b,c,e⟩:=(honly_meet S v).same;rw[e]) (meet_set h.hi hv)
theorem HpAll.fade {S:SM} (h:HpAll S):HpAll S.fade :=
 h.same h.hi.fade (by obtain⟨a,b,c,e⟩:=(honly_fade S).same;rw[e]) (fade_set h.hi)
theorem put_set {S:SM} (h:HInv S) {v:Nat} (hv:v<S.value.length) (x:Nat):x∈(S.put v).hl↔x∈S.hl∨x=v:=by
 have hT:=h.put hv
 unfold SM.put at hT ⊢
 by_cases hz:gn S.place v=0
 ·rw[if_pos hz] at hT ⊢
  have hpl:v<S.place.length:=by rw[h.hb.place];exact hv
  obtain⟨U,hU⟩:∃ U:SM,{ S with hl:=S.hl++[v] }=U:=⟨_,rfl⟩
  rw[hU] at hT ⊢
  have e1:U.place=S.place:=by rw[←hU]
  have e2:U.value=S.value:=by rw[←hU]
  have e3:U.hl=S.hl++[v]:=by rw[←hU]
  have e4:gn U.hl S.hl.length=v:=by rw[e3];exact gn_last
  have hval:(U.up S.hl.length).value=S.value:=by unfold SM.up;rw[upGo_val,e2]
  have hlaid:Laid U (U.up S.hl.length):=laid_upGo _ _ _ _
  have hlen:(U.up S.hl.length).hl.length=S.hl.length+1:=by
   unfold SM.up;rw[upGo_hl,e3];simp
  have hsv:gn (U.up S.hl.length).place v≠0:=by
   unfold SM.up;rw[e4];exact upGo_self _ (by rw[e1];exact hpl)
  have hvn:v∉S.hl:=h.notin hz
  have hsub:∀ y,y∈S.hl∨y=v→y∈(U.up S.hl.length).hl:=fun y hy=>by
   rcases hy with hy | rfl
   ·have h1:=h.hb.vars y hy
    exact (hT.mem (by rw[hval];exact h1)).2 (hlaid.2 y (by rw[e1];exact (h.mem h1).1 hy))
   ·exact (hT.mem (by rw[hval];exact hv)).2 hsv
  refine⟨fun hx=>?_,hsub x⟩
  apply Classical.byContradiction
  intro hn
  rw[not_or] at hn
  have:=nodup_sub (d:=x :: v :: S.hl) (L:=(U.up S.hl.length).hl) (List.nodup_cons.2 ⟨fun k=>by rcases List.mem_cons.1 k with k | k <;> simp_all,List.nodup_cons.2 ⟨hvn,h.nodup⟩⟩) fun y hy=>by
   rcases List.mem_cons.1 hy with rfl | hy
   ·exact hx
   ·rcases List.mem_cons.1 hy with rfl | hy
    ·exact hsub y (.inr rfl)
    ·exact hsub y (.inl hy)
  rw[List.length_cons,List.length_cons] at this
  omega
 ·rw[if_neg hz]
  exact⟨.inl,fun k=>k.elim id fun e=>e▸(h.mem hv).2 hz⟩
theorem undo_hinv0 {S:SM} (h:HInv S) (l:Nat):HInv { S with phase:=S.phase.set (l/2) (l % 2==0),value:=S.value.set (l/2) 0,reason:=S.reason.set (l/2) (-1) } :=
 h.congr (by show (S.value.set _ _).length=_;rw[List.length_set]) rfl rfl rfl
theorem undo_set {S:SM} (h:HInv S) {l:Nat} (hl:l/2<S.value.length) (x:Nat):x∈(S.undo l).hl↔x∈S.hl∨x=l/2 :=
 put_set (undo_hinv0 h l) (by show _<(S.value.set _ _).length;rw[List.length_set];exact hl) x
theorem undoAll_set {S:SM} (h:HInv S):∀ (ls:List Nat),(∀ l∈ls,l/2<S.value.length)→∀ x,x∈(S.undoAll ls).hl↔x∈S.hl∨x∈ls.map (·/2):=by
 refine snoc_ind ?_ ?_
 ·intro _ x;simp[SM.undoAll]
 ·intro ls l ih hl x
  have h1:∀ y∈ls,y/2<S.value.length:=fun y hy=>hl y (List.mem_append_left _ hy)
  obtain⟨a,b⟩:=h.undoAll ls h1
  rw[undoAll_snoc,undo_set a (by rw[b];exact hl l (by simp)),ih h1 x]
  simp[or_assoc]
theorem HpAll.back {S:SM} (h:HpAll S) (ht:TrI S) {k:Nat} (hk:k<S.ends.length) (hlen:(S.back k).value.length=S.value.length) (hT:HInv (S.back k)):HpAll (S.back k):=by
 have hb:=back_by k ht hk
 have hset:∀ x,x∈(S.back k).hl↔x∈S.hl∨x∈(S.trail.drop (gn S.ends k)).map (·/2):=fun x=>by
  unfold SM.back
  rw[if_neg (by omega)]
  exact undoAll_set h.hi _ (fun l hl=>ht.var_lt l (List.mem_of_mem_drop hl)) x
 refine⟨hT,fun hm=>?_,fun v h0 hl hz=>?_⟩
 ·rcases (hset 0).1 hm with hm | hm
  ·exact h.nz hm
  ·obtain⟨y,hy,e⟩:=List.mem_map.1 hm
   obtain⟨i,hi,rfl⟩:=mem_gn (List.mem_of_mem_drop hy)
   have:=ht.two i hi
   omega
 ·rw[hset]
  rw[hb.value] at hz
  by_cases hm:v∈(S.trail.drop (gn S.ends k)).map (·/2)
  ·exact .inr hm
  ·rw[if_neg hm] at hz
   exact .inl (h.all v h0 (by omega) hz)
theorem laid_take {S:SM} {x:Nat} (hx:gn S.place x≠0) (hne:x≠gn S.hl 0):gn (S.place.set (gn S.hl 0) 0) x≠0:=by
 rw[gn_set_ne (Ne.symm hne)];exact hx
theorem honly_taken (S:SM):HOnly S S.taken:=by
 unfold SM.taken
 split
 ·exact⟨_,_,_,rfl⟩
 ·exact HOnly.trans (⟨_,_,_,rfl⟩:HOnly S (SM.lay { S with hl:=S.hl.take (S.hl.length-1),place:=S.place.set (gn S.hl 0) 0 } 0 (gn S.hl (S.hl.length-1)))) (honly_downGo _ _ _ _)
theorem taken_set {S:SM} (h:HInv S) (hl:S.hl.length≠0) (x:Nat):x∈S.taken.hl↔x∈S.hl∧x≠gn S.hl 0:=by
 have hT:=h.taken hl
 have hval:S.taken.value=S.value:=by obtain⟨a,b,c,e⟩:=(honly_taken S).same;rw[e]
 have hlen:S.taken.hl.length=S.hl.length-1:=by
  unfold SM.taken
  split
  ·rename_i e;show 0=_;omega
  ·show (SM.downGo _ _ _ _).hl.length=_
   rw[downGo_hl]
   show ((S.hl.take (S.hl.length-1)).set 0 _).length=_
   rw[List.length_set,List.length_take];omega
 have hsub:∀ y,y∈S.hl∧y≠gn S.hl 0→y∈S.taken.hl:=fun y ⟨hy,hne⟩=>by
  have h1:=h.hb.vars y hy
  refine (hT.mem (by rw[hval];exact h1)).2 ?_
  have h2:=laid_take ((h.mem h1).1 hy) hne
  unfold SM.taken
  split
  ·exact h2
  ·refine (laid_downGo _ _ _ _).2 y ?_
   exact (laid_lay { S with hl:=S.hl.take (S.hl.length-1),place:=S.place.set (gn S.hl 0) 0 } 0 _).2 y h2
 refine⟨fun hx=>?_,hsub x⟩
 apply Classical.byContradiction
 intro hn
 have h0:gn S.hl 0∈S.hl:=gn_mem _ _ (by omega)
 have hE:(S.hl.erase (gn S.hl 0)).length=S.hl.length-1:=List.length_erase_of_mem h0
 have:=nodup_sub (d:=x :: S.hl.erase (gn S.hl 0)) (L:=S.taken.hl) (List.nodup_cons.2 ⟨fun k=>hn ((h.nodup.mem_erase_iff.1 k).symm),h.nodup.erase _⟩) fun y hy=>by
  rcases List.mem_cons.1 hy with rfl | hy
  ·exact hx
  ·exact hsub y (h.nodup.mem_erase_iff.1 hy).symm
 rw[List.length_cons,hE,hlen] at this
 omega
end Go.Proofs.YthbbmdnfkkffjaaGreat
