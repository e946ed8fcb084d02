/-
  What is learned, as sets: true wherever the added clauses are, and none that was there.
-/
import Derived.Test.YthbbmdnfkkffjaaGreatY44
import Derived.Test.YthbbmdnfkkffjaaGreatY45
import Derived.Test.YthbbmdnfkkffjaaGreatY01
set_option maxHeartbeats 8000000
set_option maxRecDepth 100000
namespace Go.Proofs.YthbbmdnfkkffjaaGreat
open Go.RowKit Go.Proofs.aC Go.Proofs.aA
open Go.Proofs.au hiding SM
structure SetOf (z xs:List Int):Prop where
 nodup:z.Nodup
 mem:∀ x,x∈z↔x∈xs
theorem SetOf.le {z xs:List Int} (h:SetOf z xs):z.length≤xs.length:=nK h.nodup fun x hx=>(h.mem x).1 hx
theorem SetOf.eq {z xs:List Int} (h:SetOf z xs) (hn:xs.Nodup):z.length=xs.length :=
 Nat.le_antisymm h.le (nK hn fun x hx=>(h.mem x).2 hx)
theorem setOf_spec {xs s:List Int} (h:qh xs=some s):SetOf s xs:=⟨(nJ h).1.nodup,(nJ h).2⟩
def ZOk (G:List (List Int)) (E:List (List Nat)) (Z:List (List Int)):Prop:=∀ z∈Z,(∃ g∈G,SetOf z g)∨∃ c∈E,SetOf z (c.map aA.bI)
theorem ZOk.nil (G:List (List Int)) (E:List (List Nat)):ZOk G E []:=fun z h=>by cases h
theorem ZOk.mono {G K:List (List Int)} {E D:List (List Nat)} {Z:List (List Int)} (h:ZOk G E Z) (hg:∀ x∈G,x∈K) (he:∀ x∈E,x∈D):ZOk K D Z:=fun z hz=>by
 rcases h z hz with ⟨g,m,k⟩ | ⟨c,m,k⟩
 ·exact .inl ⟨g,hg g m,k⟩
 ·exact .inr ⟨c,he c m,k⟩
theorem ZOk.snoc {G:List (List Int)} {E:List (List Nat)} {Z:List (List Int)} {s:List Int} (h:ZOk G E Z) (k:(∃ g∈G,SetOf s g)∨∃ c∈E,SetOf s (c.map aA.bI)):ZOk G E (Z++[s]):=fun z hz=>by
 rcases List.mem_append.1 hz with m | m
 ·exact h z m
 ·rw[List.mem_singleton] at m;subst m;exact k
theorem numF_natAbs (l:Nat):(aA.bI l).natAbs=l/2:=by
 unfold aA.bI
 split <;> omega
theorem mem_numF {c:List Nat} (h:∀ x∈c,2≤x) {l:Nat} (hl:2≤l):aA.bI l∈c.map aA.bI↔l∈c:=by
 constructor
 ·intro k;obtain⟨x,hx,e⟩:=List.mem_map.1 k;have:=congrArg aJ e;rw[Vf (h x hx),Vf hl] at this;rw[←this];exact hx
 ·exact fun k=>List.mem_map_of_mem k
structure OneL (G:List (List Int)) (n:Nat) (c:List Nat):Prop where
 nd:(c.map (·/2)).Nodup
 vs:∀ x∈c,2≤x∧x/2≤n
 ent:∀ a:Nat→Bool,(∀ g∈G,∃ x∈g,tr a (aJ x)=true)→∃ l∈c,tr a l=true
theorem OneL.nodup {G:List (List Int)} {n:Nat} {c:List Nat} (h:OneL G n c):(c.map aA.bI).Nodup:=by
 have h1:=G7 h.nd;have h2:=h.vs;clear h
 induction c with
 | nil=>exact List.nodup_nil
 | cons x r ih =>
  rw[List.nodup_cons] at h1;rw[List.map_cons,List.nodup_cons];exact⟨fun m=>h1.1 ((mem_numF (fun y hy=>(h2 y (by simp[hy])).1) (h2 x (by simp)).1).1 m),ih h1.2 fun y hy=>h2 y (by simp[hy])⟩
theorem OneL.lits {G:List (List Int)} {n:Nat} {c:List Nat} (h:OneL G n c):∀ x∈c.map aA.bI,0<x.natAbs∧x.natAbs≤n:=fun x hx=>by
 obtain⟨l,hl,rfl⟩:=List.mem_map.1 hx;have:=h.vs l hl;rw[numF_natAbs];omega
theorem OneL.set {G:List (List Int)} {n:Nat} {c:List Nat} (h:OneL G n c) (hn:n≤1000):∃ s,qh (c.map aA.bI)=some s∧SetOf s (c.map aA.bI):=by
 obtain⟨s,h1,_⟩:=BU (xs:=c.map aA.bI) fun x hx=>lF.2 (by have:=h.lits x hx;omega);exact⟨s,h1,setOf_spec h1⟩
theorem OneL.both {G:List (List Int)} {n:Nat} {c:List Nat} (h:OneL G n c) {s:List Int} (hs:SetOf s (c.map aA.bI)):∀ x∈s,hasB s (-x)=false:=fun x hx=>by
 cases e:hasB s (-x) with
 | false=>rfl
 | true =>
  exfalso;have h1:=(hs.mem _).1 (dO.1 e);have h2:=(hs.mem _).1 hx;obtain⟨l,hl,e1⟩:=List.mem_map.1 h1;obtain⟨k,hk,e2⟩:=List.mem_map.1 h2;have a1:=numF_natAbs l;have a2:=numF_natAbs k;rw[e1] at a1;rw[e2] at a2;have e3:=ZX h.nd hl hk (by omega);subst e3;have:=h.lits x h2;omega
theorem OneL.afB {G:List (List Int)} {n:Nat} {c:List Nat} (h:OneL G n c) (hG:∀ g∈G,∀ x∈g,0<x.natAbs) {s:List Int} (hs:SetOf s (c.map aA.bI)) (v:Nat):YthbbmdnfkkffjaaGreat.afB G s v=true:=by
 unfold YthbbmdnfkkffjaaGreat.afB;rw[List.all_eq_true];intro k _
 cases ha:allT (yX k) G with
 | false=>simp
 | true =>
  have hm:∃ l∈c,tr (yX k) l=true:=h.ent _ fun g hg=>by
   obtain⟨x,hx,ht⟩:=LH.1 (List.all_eq_true.1 ha g hg);exact⟨x,hx,by rw[←Uj _ (hG g hg x hx)];exact ht⟩
  obtain⟨l,hl,ht⟩:=hm;have h2:=(h.vs l hl).1
  have:Ke (yX k) s=true:=LH.2 ⟨aA.bI l,(hs.mem _).2 (List.mem_map_of_mem hl),by
   rw[Uj _ (by rw[numF_natAbs];omega),Vf h2];exact ht⟩
  rw[this];rfl
theorem fresh_set {G:List (List Int)} {D:List (List Nat)} {c:List Nat} {Z:List (List Int)} {n:Nat} (hZ:ZOk G D Z) (h:OneL G n c) (hG:∀ g∈G,(g.map Int.natAbs).Nodup∧∀ x∈g,0<x.natAbs) (hg:∀ g∈G,¬ (g.map aJ).Perm c) (hD:∀ d∈D,¬ d.Perm c∧(d.map (·/2)).Nodup∧∀ x∈d,2≤x) {s:List Int} (hs:SetOf s (c.map aA.bI)):∀ z∈Z,Wd z s=false:=fun z hz=>by
 cases e:Wd z s with
 | false=>rfl
 | true =>
  exfalso;have e:=SH.1 e;subst e;rcases hZ z hz with ⟨g,m,k⟩ | ⟨d,m,k⟩
  ·refine hg g m ?_
   have hn:((g.map aJ).map (·/2)).Nodup:=by
    rw[List.map_map,show ((fun x=>x/2) ∘ aJ)=Int.natAbs from funext fun x=>dU x];exact (hG g m).1
   rw[List.perm_ext_iff_of_nodup (G7 hn) (G7 h.nd)];intro l
   constructor
   ·intro hl;obtain⟨x,hx,rfl⟩:=List.mem_map.1 hl;obtain⟨l,hl2,e⟩:=List.mem_map.1 ((hs.mem x).1 ((k.mem x).2 hx));rw[←e,Vf (h.vs l hl2).1];exact hl2
   ·intro hl;exact List.mem_map.2 ⟨aA.bI l,(k.mem _).1 ((hs.mem _).2 (List.mem_map_of_mem hl)),Vf (h.vs l hl).1⟩
  ·obtain⟨q1,q2,q3⟩:=hD d m;refine q1 ?_;rw[List.perm_ext_iff_of_nodup (G7 q2) (G7 h.nd)];intro l
   constructor
   ·intro hl;exact (mem_numF (fun x hx=>(h.vs x hx).1) (q3 l hl)).1 ((hs.mem _).1 ((k.mem _).2 (List.mem_map_of_mem hl)))
   ·intro hl;exact (mem_numF q3 (h.vs l hl).1).1 ((k.mem _).1 ((hs.mem _).2 (List.mem_map_of_mem hl)))
theorem IE.oneL {n g:Nat} {S T:aA.SM} {E E2:List (List Nat)} (h:IE n T (E++E2) g) {xs:List Int} {v e:Int} (a:Answer xs S T v e) (hl:T.learned=E2.map fun c=>c.map aA.bI):∀ c∈E2,OneL T.given n c:=fun c hc=>by
 have hm:c∈E++E2:=List.mem_append_right _ hc;refine⟨h.nd c hm,h.vs c hm,fun m hmo=>?_⟩;obtain⟨d,d1,_,d3,d4⟩:=a.ln (c.map aA.bI) (by rw[hl];exact List.mem_map_of_mem hc);obtain⟨l,hl2,ht⟩:=d4 m (by rw[a.given] at hmo;exact hmo);refine⟨l,?_,ht⟩;rw[←mem_numF (fun x hx=>(h.vs c hm x hx).1) (d3 l hl2).1,d1];exact List.mem_map_of_mem hl2
end Go.Proofs.YthbbmdnfkkffjaaGreat
