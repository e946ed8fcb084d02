/-
  Parts of the proof, joined by program: RegE.
-/
import Derived.Test.YthbbmdnfkkffjaaGreatY01
import Derived.OrdersHeld
import Derived.Deep.RegionHeld3
import Derived.Lib.Hide
set_option maxHeartbeats 8000000
set_option maxRecDepth 100000
namespace Go.Proofs.aC
open Go
section
variable {P:Program} {ops:Array Oper} {Q:Exit→Act→World→Prop} {md:Region.Mode} {S:World→Prop} {z:Nat}
def AnyE (P:Program) (md:Region.Mode) (ops:Array Oper) (Q:Exit→Act→World→Prop) (S:World→Prop) (z:Nat):Nat→Array Bool→Act→World→Prop
 | 0,listed,a,w=>Region.ready md ops listed=[]∧Q .normal a w
 | n+1,listed,a,w =>
  (Region.ready md ops listed=[]→Q .normal a w) ∧
   ∀ j∈Region.ready md ops listed,wpOp P ops Q j (fun b V=>(j=z∧wpAny P md ops Q n (listed.setIfInBounds j true) b V)∨(S V∧AnyE P md ops Q S z n (listed.setIfInBounds j true) b V)) a w
theorem MC:∀ (n:Nat) (listed:Array Bool) (a:Act) (w:World),AnyE P md ops Q S z n listed a w→wpAny P md ops Q n listed a w
 | 0,_,_,_,h=>h
 | n+1,_,_,_,h=>⟨h.1,fun j hj=>wpOp_mono (fun b V k=>k.elim (·.2) fun k=>MC n _ b V k.2) (h.2 j hj)⟩
def yx (md:Region.Mode) (ops:Array Oper) (z i:Nat):Bool:=match ops[z]? with
 | some o=>o.after.any fun e=>Region.binds md e&&e.on==i
 | none=>false
theorem tN {i:Nat} {listed:Array Bool} (h:yx md ops z i=true) (hr:i∈Region.ready md ops listed):z∉Region.ready md ops listed:=fun hz=>by
 obtain⟨hun,_⟩:=mem_ready.1 hr;obtain⟨_,o,ho,hall⟩:=mem_ready.1 hz;unfold yx at h;rw[ho] at h;obtain⟨e,he,hb⟩:=Array.any_eq_true'.1 h;simp only[Bool.and_eq_true,beq_iff_eq] at hb;have h1:=hall e he hb.1;rw[hb.2] at h1;rcases Nat.lt_or_ge i listed.size with h' | h'
 ·simp[h'] at hun h1;rw[hun] at h1;cases h1
 ·simp[Array.getElem?_eq_none h'] at h1
theorem aaZ {i:Nat} {oi:Oper} {v:Value} (hz:yx md ops z i=true) (hi:ops[i]?=some oi) (hsel:∀ (j:Nat) (o:Oper) cs b,ops[j]?=some o→o.op≠.select cs b)
  (hQ:∀ c a w,Q (.panic c) (a.put oi.dst v) w→Q (.panic c) a w) :
  ∀ (n:Nat) (listed:Array Bool) (a:Act) (w:World),
   (∀ j oj,ops[j]?=some oj→j≠i→listed.getD j true=false→(∀ e∈oj.after,Region.binds md e=true→e.on≠i)→oi.apart ops oj=true) →
   i∈Region.ready md ops listed→YieldsIf P ops S oi v a→S w →
   AnyE P md ops Q S z n (listed.setIfInBounds i true) (a.put oi.dst v) w→AnyE P md ops Q S z (n+1) listed a w:=by
 intro n
 induction n with
 | zero =>
  intro listed a w _ hr hy hS H
  constructor
  ·intro h;rw[h] at hr;cases hr
  ·intro j hj
   by_cases e:j=i
   ·rw[e];exact hy.wpOp hi hS (Or.inr ⟨hS,H⟩)
   ·have k:=ready_mono hj e;rw[H.1] at k
    cases k
 | succ n ih =>
  intro listed a w hfree hr hy hS H
  constructor
  ·intro h;rw[h] at hr;cases hr
  ·intro j hj
   by_cases e:j=i
   ·rw[e];exact hy.wpOp hi hS (Or.inr ⟨hS,H⟩)
   ·have hjz:j≠z:=fun h=>tN hz hr (h▸hj);have k1:=H.2 j (ready_mono hj e);obtain⟨un,oj,hoj,hall⟩:=mem_ready.1 hj
    have no:∀ x∈oj.after,Region.binds md x=true→x.on≠i:=fun x hx hb h=>by
     have h1:=hall x hx hb;have h0:=(mem_ready.1 hr).1;rw[h] at h1;rcases Nat.lt_or_ge i listed.size with h' | h'
     ·simp[h'] at h0 h1;rw[h0] at h1;cases h1
     ·simp[Array.getElem?_eq_none h'] at h1
    have k2:=wpOp_putIf hoj (hfree j oj hoj e un no) (fun cs b=>hsel i oi cs b hi) (fun cs b=>hsel j oj cs b hoj) hQ hy k1
    have fr:∀ m om,ops[m]?=some om→m≠i→(listed.setIfInBounds j true).getD m true=false→(∀ x∈om.after,Region.binds md x=true→x.on≠i)→oi.apart ops om=true:=fun m om hm hmi hun hno=>by
     refine hfree m om hm hmi ?_ hno
     by_cases q:j=m
     ·rw[←q];exact un
     ·rwa [getD_set_ne true q] at hun
    refine wpOp_mono (fun b V k3=>?_) k2;have aF:=k3.2.resolve_left fun h=>hjz h.1;refine Or.inr ⟨aF.1,ih (listed.setIfInBounds j true) b V fr (ready_mono hr (Ne.symm e)) k3.1 aF.1 ?_⟩;rw[Array.setIfInBounds_comm _ _ e];exact aF.2
theorem adS {i:Nat} {oi:Oper} {v:Value} {n:Nat} {listed:Array Bool} {a:Act} {w:World} (hi:ops[i]?=some oi) (hz:yx md ops z i=true)
  (hs:Region.noSelect ops=true) (hf:Region.free md ops listed i=true) (hr:(Region.ready md ops listed).contains i=true)
  (hQ:∀ c a w,Q (.panic c) (a.put oi.dst v) w→Q (.panic c) a w) (hw:Region.wanted oi (yielded ops a.tmps)=true) (hy:∀ w,S w→(execOp a.eval oi).run P w=.ok (.value v) w) (hS:S w)
  (h:AnyE P md ops Q S z n (listed.setIfInBounds i true) (a.put oi.dst v) w):AnyE P md ops Q S z (n+1) listed a w :=
 aaZ hz hi (Region.noSelect_spec hs) hQ n listed a w (Region.free_spec hi hf) (by simpa using hr) (Or.inl ⟨hw,hy⟩) hS h
theorem ay {l:List Oper} {i:Nat} {oi:Oper} {v:Value} {n:Nat} {listed:Array Bool} {a:Act} {w:World} (hi:l[i]?=some oi) (hz:yx md l.toArray z i=true)
  (hs:Region.noSelect l.toArray=true) (hf:Region.free md l.toArray listed i=true) (hr:(Region.ready md l.toArray listed).contains i=true)
  (hQ:∀ c a w,Q (.panic c) (a.put oi.dst v) w→Q (.panic c) a w) (hw:Region.wanted oi (yielded l.toArray a.tmps)=true) (hy:∀ w,S w→(execOp a.eval oi).run P w=.ok (.value v) w) (hS:S w)
  (h:AnyE P md l.toArray Q S z n (listed.setIfInBounds i true) (a.put oi.dst v) w):AnyE P md l.toArray Q S z (n+1) listed a w :=
 adS (by simpa using hi) hz hs hf hr hQ hw hy hS h
theorem bf {l:List Oper} {i:Nat} {o:Oper} {n:Nat} {listed:Array Bool} {a:Act} {w:World} (hr:Region.ready md l.toArray listed=[i]) (hi:l[i]?=some o)
  (h:∀ K:Act→World→Prop,(∀ b V,S V→AnyE P md l.toArray Q S z n (listed.setIfInBounds i true) b V→K b V)→if Region.wanted o (yielded l.toArray a.tmps)=true then Oper.wp P o a w K Q else K (a.put o.dst undef) w) :
  AnyE P md l.toArray Q S z (n+1) listed a w:=by
 constructor
 ·intro h0;rw[hr] at h0;cases h0
 ·intro j hj;rw[hr,List.mem_singleton] at hj;subst hj;exact wpOp_step (by simpa using hi) fun K hK=>h K fun b V hS hA=>hK b V (Or.inr ⟨hS,hA⟩)
theorem agy {l:List Oper} {o:Oper} {n:Nat} {listed:Array Bool} {a:Act} {w:World} (hr:Region.ready md l.toArray listed=[z]) (hi:l[z]?=some o)
  (h:∀ K:Act→World→Prop,(∀ b V,wpAny P md l.toArray Q n (listed.setIfInBounds z true) b V→K b V)→if Region.wanted o (yielded l.toArray a.tmps)=true then Oper.wp P o a w K Q else K (a.put o.dst undef) w) :
  AnyE P md l.toArray Q S z (n+1) listed a w:=by
 constructor
 ·intro h0;rw[hr] at h0;cases h0
 ·intro j hj;rw[hr,List.mem_singleton] at hj;subst hj;exact wpOp_step (by simpa using hi) fun K hK=>h K fun b V hq=>hK b V (Or.inl ⟨rfl,hq⟩)
theorem iy {l:List Oper} {o:Oper} {n:Nat} {listed:Array Bool} {a:Act} {w:World} (hr:Region.ready md l.toArray listed=[z]) (hi:l[z]?=some o) (hd:Region.ready md l.toArray (listed.setIfInBounds z true)=[])
  (h:∀ K:Act→World→Prop,(∀ b V,Q .normal b V→K b V)→if Region.wanted o (yielded l.toArray a.tmps)=true then Oper.wp P o a w K Q else K (a.put o.dst undef) w) :
  AnyE P md l.toArray Q S z (n+1) listed a w :=
 agy hr hi fun K hK=>h K fun b V hq=>hK b V (by
  cases n with
  | zero=>exact⟨hd,hq⟩
  | succ n=>exact⟨fun _=>hq,by rw[hd];simp⟩)
theorem Ja {l:List Oper} {i:Nat} {o:Oper} {n:Nat} {listed:Array Bool} {a:Act} {w:World} (hr:Region.ready md l.toArray listed=[i]) (hi:l[i]?=some o)
  (h:∀ K:Act→World→Prop,(∀ b V,wpAny P md l.toArray Q n (listed.setIfInBounds i true) b V→K b V)→if Region.wanted o (yielded l.toArray a.tmps)=true then Oper.wp P o a w K Q else K (a.put o.dst undef) w) :
  wpAny P md l.toArray Q (n+1) listed a w:=by
 constructor
 ·intro h0;rw[hr] at h0;cases h0
 ·intro j hj;rw[hr,List.mem_singleton] at hj;subst hj;exact wpOp_step (by simpa using hi) fun K hK=>h K fun b V hq=>hK b V hq
theorem UE {l:List Oper} {i:Nat} {o:Oper} {n:Nat} {listed:Array Bool} {a:Act} {w:World} (hr:Region.ready md l.toArray listed=[i]) (hi:l[i]?=some o) (hd:Region.ready md l.toArray (listed.setIfInBounds i true)=[])
  (h:∀ K:Act→World→Prop,(∀ b V,Q .normal b V→K b V)→if Region.wanted o (yielded l.toArray a.tmps)=true then Oper.wp P o a w K Q else K (a.put o.dst undef) w) :
  wpAny P md l.toArray Q (n+1) listed a w :=
 Ja hr hi fun K hK=>h K fun b V hq=>hK b V (by
  cases n with
  | zero=>exact⟨hd,hq⟩
  | succ n=>exact⟨fun _=>hq,by rw[hd];simp⟩)
theorem dn {id:Nat} {a:Act} {w:World} (z:Nat) (S:World→Prop) (hm:P.follows .mixedOrders=true)
  (h:AnyE P .any ops Q S z ops.size (Array.replicate ops.size false) a w.drew):(Code.region id ops true).wp P Q a w :=
 wp_region_any hm (MC _ _ _ _ h)
end
end Go.Proofs.aC
