/-
  Parts of the proof, joined by program: Lw3, Open, OpenS.
-/
import Derived.Test.YthbbmdnfkkffjaaGreatZ50
import Derived.Test.YthbbmdnfkkffjaaGreatZ02
import Derived.ProofKit
import Derived.OpenShut
import Derived.ShutString
import Derived.ChangeOld
import Derived.Below
import Derived.SizedLaws
import Derived.Deep.Matrix
import Derived.Deep.SlicePairs
import Derived.ChangeArms
namespace Go.Proofs.YthbbmdnfkkffjaaGreat
open Go.RowKit Go.Proofs.PlaitSep Go.Proofs.PlaitSat
open Go.Proofs.PlaitPure hiding SM
theorem nodup_abs:∀ (l:List Int),l.Nodup→(∀ x∈l,x≠0)→(∀ x∈l,-x∉l)→(l.map Int.natAbs).Nodup
 | [],_,_,_=>List.nodup_nil
 | x :: r,hn,h0,hb=>by
  rw[List.nodup_cons] at hn
  rw[List.map_cons,List.nodup_cons]
  refine⟨fun hm=>?_,nodup_abs r hn.2 (fun y hy=>h0 y (by simp[hy])) fun y hy hm=>hb y (by simp[hy]) (by simp[hm])⟩
  obtain⟨y,hy,e⟩:=List.mem_map.1 hm
  have hx0:=h0 x (by simp)
  have hcase:y=x∨y=-x:=by omega
  rcases hcase with rfl | rfl
  ·exact hn.1 hy
  ·exact hb x (by simp) (by simp[hy])
theorem once_clOk {xs:List Int} (h:onceE xs=0):ClOk (onceL xs)∧∀ x∈xs,litB x=true:=by
 unfold onceE at h
 split at h
 ·rename_i ha
  split at h
  ·cases h
  ·rename_i hb
   have hal:∀ x∈xs,litB x=true:=List.all_eq_true.1 ha
   refine⟨⟨nodup_abs _ (onceOut_nodup xs [] List.nodup_nil) (fun x hx=>?_) fun x hx hm=>hb ?_,fun x hx=>?_⟩,hal⟩
   ·have:=litB_iff.1 (hal x (onceL_mem.1 hx));exact this.1
   ·unfold bothB
    rw[List.any_eq_true]
    exact⟨x,onceL_mem.1 hx,by simpa using onceL_mem.1 hm⟩
   ·have:=litB_iff.1 (hal x (onceL_mem.1 hx));omega
 ·cases h
structure AddP (K:Nat) (S:PlaitSat.SM) (xs:List Int) (R:PlaitSat.SM×Int):Prop where
 zs:Zs K R.1
 le:S.value.length≤R.1.value.length
 yes:R.2=0→onceE xs=0∧R.1.given=S.given++[onceL xs]∧R.1.words=S.words+((onceL xs).length+2)
 no:R.2≠0→R.1=S∧((R.2=onceE xs∧onceE xs≠0)∨(onceE xs=0∧R.2=111∧S.most<S.words+(onceL xs).length+2))
 cm:R.1.most=S.most∧R.1.conf=S.conf
 rest:R.1.learned=S.learned∧R.1.model=S.model∧R.1.told=S.told∧R.1.core=S.core
theorem satAdd_ok {K:Nat} {S:PlaitSat.SM} (h:Zs K S) (xs:List Int):(onceE xs=0→AdOk S (onceL xs))∧AddP K S xs (satAdd S xs):=by
 by_cases h0:onceE xs=0
 ·obtain⟨a,b⟩:=h.add (once_clOk h0).1
  refine⟨fun _=>a,?_⟩
  unfold satAdd
  rw[if_pos h0]
  obtain⟨R,hR⟩:∃ R,S.add (onceL xs)=R:=⟨_,rfl⟩
  rw[hR] at b ⊢
  cases hb:R.2 with
  | true =>
   rw[if_pos rfl]
   exact⟨b.zs,b.le,fun _=>⟨h0,(b.yes hb).1,(b.yes hb).2⟩,fun k=>absurd rfl k,b.same,b.rest⟩
  | false =>
   rw[if_neg (by simp)]
   refine⟨b.zs,b.le,fun k=>(by cases k),fun _=>⟨b.no hb,.inr ⟨h0,rfl,?_⟩⟩,b.same,b.rest⟩
   apply Classical.byContradiction;intro k
   have:=b.num.2 (by omega)
   rw[hb] at this;cases this
 ·refine⟨fun k=>absurd k h0,?_⟩
  unfold satAdd
  rw[if_neg h0]
  exact⟨h,Nat.le_refl _,fun k=>absurd k h0,fun _=>⟨rfl,.inl ⟨rfl,h0⟩⟩,⟨rfl,rfl⟩,⟨rfl,rfl,rfl,rfl⟩⟩
theorem satSolve_ok {K:Nat} {S:PlaitSat.SM} (h:Zs K S) (hk:K<100000) {xs:List Int} (hl:xs.length≤600000) (ha:xs.all litB=true) :
  SvOk S xs∧Zs (K+1) (satSolve S xs).1∧Answer xs S (satSolve S xs).1 (satSolve S xs).2.1 (satSolve S xs).2.2:=by
 unfold satSolve
 rw[if_pos ha]
 exact h.solve hk hl fun a hm=>by have:=litB_iff.1 (List.all_eq_true.1 ha a hm);omega
theorem Answer.short {asm:List Int} {S T:PlaitSat.SM} {v e:Int} (h:Answer asm S T v e) {K:Nat} (hz:Zs K T):T.learned.length≤2000∧∀ c∈T.learned,c.length≤65537:=by
 refine⟨Nat.le_trans h.lc hz.ze.cf,fun c hc=>?_⟩
 obtain⟨d,rfl,h1,h2,_⟩:=h.ln c hc
 have:=nodup_lt (n:=T.value.length) h1 fun v hv=>by
  obtain⟨x,hx,rfl⟩:=List.mem_map.1 hv
  exact (h2 x hx).2
 rw[List.length_map] at this ⊢
 have:=hz.vs
 omega
theorem light_litB {v:Int} {c:List Int} (hv:v≤65536) (h:InV v c) (h0:hasB c 0=false):c.all litB=true:=by
 rw[List.all_eq_true]
 intro x hx
 have h1:=h x hx
 have hx0:x≠0:=fun e=>by
  have:=hasB_iff.2 (e▸hx)
  rw[h0] at this;cases this
 rw[litB_iff]
 omega
section
variable {B:Nat} {w0:World} {F:HP}
theorem Stays.ofRd {A:Option Addr} {n:Nat} {xs:List Int} (h:Rd w0 A n xs) (hB:w0.heap.size≤B):Stays B w0 F A n xs:=fun _ _ k=>h.grow (k.below.mono hB)
end
end Go.Proofs.YthbbmdnfkkffjaaGreat
namespace Go.Proofs.PlaitSep
open Go Go.RowKit Go.ChangeShapes Go.WideShapes Go.ChangeAt Go.Deep Go.Proofs.PlaitPure
theorem weightsAll_in {H:Type} {P:Program} {e:TypeId}:∀ {ds:List (DataW H)} {d:DataW H},d∈ds→∀ n∈d.weights P e,n∈DataW.weightsAll P e ds
 | x :: r,d,hd,n,hn=>by
  simp only[DataW.weightsAll,List.mem_append]
  rcases List.mem_cons.1 hd with rfl | h
  ·exact Or.inl hn
  ·exact Or.inr (weightsAll_in h n hn)
theorem spot_none {w:World} {a:Addr} {v:Value} (h:w.cell? a=some v):a=⟨a.block,a.off,none⟩:=by
 unfold World.cell? at h
 cases a with
 | mk b o s =>
  cases s with
  | none=>rfl
  | some x =>
   simp only at h
   split at h
   ·simp at h
   ·cases h
theorem add_spot (b o j:Nat):(⟨b,o,none⟩:Addr).add j=⟨b,o+j,none⟩:=by
 unfold Addr.add
 split <;> simp_all
section
variable {H:Type} {enc:TypeId×Value→H} {P:Program} {W:World} {base:Nat} {a:Option Addr} {len cap:Nat} {d:DataW H} {ps:List MemPlace} {ts:List TypeId} {ds:List (DataW H)} {j:Nat}
end
end Go.Proofs.PlaitSep
namespace Go.Proofs.YthbbmdnfkkffjaaGreat
open Go Go.RowKit Go.ChangeShapes Go.WideShapes Go.ChangeAt Go.Deep Go.Proofs.PlaitSep Go.Proofs.PlaitSat
open Go.Proofs.PlaitPure hiding SM
section
variable {H:Type} {enc:TypeId×Value→H} {P:Program} {W:World} {base:Nat} {a:Option Addr} {len cap:Nat} {d:DataW H} {ps:List MemPlace} {ts:List TypeId} {ds:List (DataW H)} {j:Nat}
theorem step_sized (h:(DataW.weightsEach P ts ds).all (·≤reachBytes)=true) {t e q:TypeId} {f0 f1:Field} {elems spare e' sp':List (DataW H)} {D0:DataW H}
  (ht:ts[j]?=some t) (hd:ds[j]?=some (.slice elems spare)) (hu:P.underlying t=some (.slice e)) (hu2:P.underlying e=some (.struct #[f0,f1])) (hu3:P.underlying f1.type=some (.slice q)) (hx:DataW.agg [D0,.slice e' sp']∈elems):(e'.length+sp'.length)*P.bytesOf q≤reachBytes:=by
 refine of_decide_eq_true (List.all_eq_true.1 h _ (DataW.weights_mem_each ht hd _ ?_))
 simp only[DataW.weights,hu,List.mem_cons,List.mem_append]
 exact Or.inr (Or.inl (weightsAll_in hx _ (by simp[DataW.weights,DataW.weightsEach,hu2,hu3])))
theorem open_steps {t e q:TypeId} {f0 f1:Field} (hsz:(DataW.weightsEach P ts ds).all (·≤reachBytes)=true) (ht:ts[j]?=some t) (hd:ds[j]?=some d) (hu:P.underlying t=some (.slice e)) (he:P.underlying e=some (.struct #[f0,f1])) (ce:P.cellsOf e=2) (o0:f0.offset=0) (o1:f1.offset=1) (c0:P.cellsOf f0.type=1) (c1:P.cellsOf f1.type=1)
  (h0:P.underlying f0.type=some (.int .i64)) (h1:P.underlying f1.type=some (.slice q)) (hq:P.underlying q=some (.int .i64)) (cq:P.cellsOf q=1) (hB:P.bytesOf e=32) (hBq:P.bytesOf q=8)
  (h:DataW.Trod enc P W base (fun _=>true) true t (.slice a len cap) d ps):∃ l,RdS W a len l:=by
 obtain⟨fuel,hf⟩:=h
 rcases open_slice_pairs hu he ce o0 o1 c0 c1 hf with ⟨hcs,_⟩ | ⟨x,l,c,m,n,V0,V1,D0,D1,P0,P1,hcs,_,hl,_,hm,hx,hcell⟩
 ·simp[Value.cells] at hcs
  obtain⟨rfl,rfl,rfl⟩:=hcs
  exact⟨[],⟨rfl,Nat.zero_le _,fun h=>absurd h (by omega)⟩⟩
 ·simp[Value.cells] at hcs
  obtain⟨rfl,rfl,rfl⟩:=hcs
  obtain⟨hx,_⟩:=Prod.mk.inj hx
  subst hx
  simp only[if_true] at hm
  subst hm
  have z:=sized_slice hsz ht hd hu
  rw[hB] at z
  simp only[List.length_map,List.length_range] at z
  have hr:reachBytes=140737488351232:=rfl
  have each:∀ i,i<len→∃ y:Int×List Int×Option Addr×Nat,W.cell? (x.add (i*2))=some (.int .i64 y.1)∧W.cell? (x.add (i*2+1))=some (.slice y.2.2.1 y.2.1.length y.2.2.2)∧Rd W y.2.2.1 y.2.1.length y.2.1:=fun i hi=>by
   obtain⟨k1,k2,k3,k4⟩:=hcell i (by omega)
   obtain⟨v,e1,_,_⟩:=DataW.trod_int h0 k3
   simp only[List.cons.injEq,and_true] at e1
   rw[e1] at k1
   have hin:DataW.agg [D0 i,D1 i]∈(List.range len).map fun i=>DataW.agg [D0 i,D1 i]:=List.mem_map.2 ⟨i,by simpa using hi,rfl⟩
   rcases open_ints h1 hq cq k4 with ⟨hc2,hy⟩ | ⟨a',len',cap',zs,hc2,hb',hl',hm',hz,hy,hcl,hwz⟩
   ·simp only[List.cons.injEq,and_true] at hc2
    rw[hc2] at k2
    exact⟨(v,[],none,0),k1,k2,⟨rfl,Nat.zero_le _,fun h=>absurd h (Nat.lt_irrefl 0)⟩⟩
   ·simp only[List.cons.injEq,and_true] at hc2
    rw[hc2] at k2
    simp only[if_true] at hz
    simp only[Prod.mk.injEq] at hy
    rw[hy.1] at hin
    have z2:=step_sized hsz ht hd hu he h1 hin
    rw[hBq] at z2
    have h3:(lits (H:=H) .i64 (zs.take len')).length+(lits (H:=H) .i64 (zs.drop len')).length=zs.length:=by
     simp[lits];omega
    rw[h3] at z2
    have hL:(zs.take len').length=len':=by rw[List.length_take];omega
    refine⟨(v,zs.take len',some a',cap'),k1,by rw[hL];exact k2,⟨rfl,by rw[hL];omega,fun hp=>?_⟩⟩
    have h00:=hcl 0 (by rw[hL] at hp;omega)
    have hs':a'=⟨a'.block,a'.off,none⟩:=spot_none (by simpa [Addr.add] using h00)
    refine⟨a'.block,a'.off,by rw[←hs'],fun jj hj=>?_⟩
    rw[hL] at hj
    have:=hcl jj (by omega)
    rw[hs',add_spot] at this
    rw[this]
    simp[gi,List.getD_eq_getElem?_getD,hj]
  obtain⟨y,hy⟩:=choose_lt each
  have hg:∀ i,i<len→gs ((List.range len).map fun i=>((y i).1,(y i).2.1)) i=((y i).1,(y i).2.1):=fun i hi=>by simp[gs,List.getD_eq_getElem?_getD,hi]
  refine⟨(List.range len).map fun i=>((y i).1,(y i).2.1),⟨by simp,by omega,fun hp=>?_⟩⟩
  have h00:=(hy 0 hp).1
  have hs:x=⟨x.block,x.off,none⟩:=spot_none (by simpa [Addr.add] using h00)
  refine⟨x.block,x.off,by rw[←hs],fun i hi=>?_⟩
  obtain⟨k1,k2,k3⟩:=hy i hi
  rw[hs,add_spot] at k1 k2
  rw[hg i hi]
  exact⟨k1,_,_,k2,k3⟩
end
end Go.Proofs.YthbbmdnfkkffjaaGreat
