/-
  SatMore: the law, proved: where what it reads is of a bulk of at most 1048576, it returns true and the input reads as it did.
-/
import Derived.Test.YthbbmdnfkkffjaaGreatYMo1
import Derived.Test.YthbbmdnfkkffjaaGreatYOpenU
import Derived.Test.YthbbmdnfkkffjaaGreatYOpenR
import Derived.Test.YthbbmdnfkkffjaaGreatRows
import Derived.JoinedCond
import Derived.Deep.CondSized
import Derived.Test.YthbbmdnfkkffjaaGreatY44
import Derived.Test.YthbbmdnfkkffjaaGreatY01
set_option maxHeartbeats 8000000
set_option maxRecDepth 100000
namespace Go.Proofs.YthbbmdnfkkffjaaGreat.satMoreUpto
open Go.ChangeShapes Go.WideShapes Go.ChangeAt Go.RowKit Go.Proofs.aC
theorem own:ownKnob Tryz.prog.godebug=none:=by kernel_rfl
theorem laidOut:laidOutB Tryz.prog=true:=by kernel_rfl
theorem cellsS:Tryz.prog.cellsOf 29=2:=by kernel_rfl
theorem tC:Tryz.prog.bytesOf 29=32:=by kernel_rfl
theorem tF:Tryz.prog.cellsOf 27=1:=by kernel_rfl
theorem kU:Tryz.prog.cellsOf 3=1:=by kernel_rfl
theorem tH:Tryz.prog.bytesOf 3=8:=by kernel_rfl
theorem lifted (os:Os) (started:os.Started) (H:Type) (enc:TypeId×Value→H) (F:Stop.Interp) :
  ReturnsInHanded {} Tryz.checked os 7 .any ((Rows.OpenSpec.upto Rows.satMoreSpec).pre6 enc Tryz.prog Tryz.f7 Rows.satMoreUptoRow.domain false) (((Rows.OpenSpec.upto Rows.satMoreSpec).at F).post enc Tryz.prog Tryz.f7 false true false false):=by
 refine returnsInHanded_of_cond_sized (C:=Tryz.checked) (s:=Rows.OpenSpec.upto Rows.satMoreSpec) (k:=Rows.uptoSmall) rfl own started (by kernel_rfl) Tryz.func7
  (OpenSpec.witness (enc:=enc) (C:=Tryz.checked) (s:=Rows.OpenSpec.upto Rows.satMoreSpec) (k:=Rows.uptoSmall) rfl false ⟨#[],#[.slice none 0 0,.slice none 0 0,.slice none 0 0,.slice none 0 0],[]⟩ 8 (by kernel_rfl) (by kernel_rfl) (by kernel_rfl) (x:=([.nil,.nil,.nil,.nil],[],[])) (by kernel_rfl) rfl (by kernel_rfl)) ?_
 intro W base args ds gs before hval0 hW hcnd hk0 hsz0 _;have hsz:(DataW.weightsEach Tryz.prog (Tryz.f7.params.toList++Rows.satMoreSpec.plain.varTypes Tryz.prog) (ds++gs)).all (·≤reachBytes)=true:=hsz0;have hval:∀ (j:Nat) t v,Tryz.f7.params[j]?=some t→args[j]?=some v→Value.okWide Tryz.prog W .any base t v:=hval0;have hW':=hW;obtain⟨p,q,hA0,hV,rfl,hfz,hnd⟩:=hW;have hA:DataW.TrodAll enc Tryz.prog W 0 (fun _=>true) true Tryz.f7.params.toList args.toList ds p:=hA0;rw[Tryz.params7] at hA hval hsz;obtain⟨v0,vs0,d0,ds0,p0,q0,hargs,rfl,rfl,h0,r0⟩:=trodAll_cons hA;obtain⟨v1,vs1,d1,ds1,p1,q1,rfl,rfl,rfl,h1,r1⟩:=trodAll_cons r0;obtain⟨v2,vs2,d2,ds2,p2,q2,rfl,rfl,rfl,h2,r2⟩:=trodAll_cons r1;obtain⟨v3,vs3,d3,ds3,p3,q3,rfl,rfl,rfl,h3,r3⟩:=trodAll_cons r2;obtain⟨rfl,rfl,rfl⟩:=trodAll_nil r3;obtain rfl:args=#[v0,v1,v2,v3]:=by cases args;simp_all
 obtain⟨rfl,rfl⟩:=trodVars_none hV;obtain⟨a0,SB,cap0,rfl⟩:=okWide_slice Tryz.underlying22 (hval 0 22 v0 rfl rfl);have k0:=h0;have lt0:∀ x∈p0,x.block<W.heap.size:=by obtain⟨m,hm⟩:=k0;exact DataW.trod_lt m _ _ _ hm
 obtain⟨z0,w0⟩:=pG hsz (j:=0) rfl rfl Tryz.underlying22 Tryz.underlying29 cellsS rfl rfl kU tF Tryz.underlying3 Tryz.underlying27 Tryz.underlying3 kU tC tH h0;obtain⟨a1,len1,ai5,rfl⟩:=okWide_slice Tryz.underlying22 (hval 1 22 v1 rfl rfl);have k1:=h1;have lt1:∀ x∈p1,x.block<W.heap.size:=by obtain⟨m,hm⟩:=k1;exact DataW.trod_lt m _ _ _ hm
 obtain⟨z1,w1⟩:=pG hsz (j:=1) rfl rfl Tryz.underlying22 Tryz.underlying29 cellsS rfl rfl kU tF Tryz.underlying3 Tryz.underlying27 Tryz.underlying3 kU tC tH h1;obtain⟨a2,len2,cap2,rfl⟩:=okWide_slice Tryz.underlying27 (hval 2 27 v2 rfl rfl);have k2:=h2;have lt2:∀ x∈p2,x.block<W.heap.size:=by obtain⟨m,hm⟩:=k2;exact DataW.trod_lt m _ _ _ hm
 obtain⟨z2,w2,x2⟩:=open_row2 hsz (j:=2) rfl rfl Tryz.underlying27 Tryz.underlying3 kU tH h2;obtain⟨a3,len3,cap3,rfl⟩:=okWide_slice Tryz.underlying27 (hval 3 27 v3 rfl rfl);have k3:=h3;have lt3:∀ x∈p3,x.block<W.heap.size:=by obtain⟨m,hm⟩:=k3;exact DataW.trod_lt m _ _ _ hm
 obtain⟨z3,w3,x3⟩:=open_row2 hsz (j:=3) rfl rfl Tryz.underlying27 Tryz.underlying3 kU tH h3;obtain⟨lc0,ld0⟩:=open_steps_d Tryz.underlying22 Tryz.underlying29 cellsS rfl rfl kU tF h0;have lb0:=bulk_slice (by simp) ld0 hk0;obtain⟨lc1,ld1⟩:=open_steps_d Tryz.underlying22 Tryz.underlying29 cellsS rfl rfl kU tF h1;have lb1:=bulk_slice (by simp) ld1 hk0;clear hA0 hval0 hsz0 hsz;refine (satMore_any a0 SB cap0 z0 a1 len1 ai5 z1 a2 len2 cap2 z2 a3 len3 cap3 z3 W w0 w1 w2 w3 lc0 lb0 lc1 lb1).mono fun e W' ⟨he,Uk⟩=>?_;subst he
 exact⟨_,rfl,_,_,_,[],_,[],hW',trodAll_mk1 (shut_bool Tryz.underlying4 _),(trodAll_cons_mk (Below.trod laidOut (by kernel_rfl) (of_decide_eq_true (by kernel_rfl)) k0 Uk lt0) (trodAll_cons_mk (Below.trod laidOut (by kernel_rfl) (of_decide_eq_true (by kernel_rfl)) k1 Uk lt1) (trodAll_cons_mk (Below.trod laidOut (by kernel_rfl) (of_decide_eq_true (by kernel_rfl)) k2 Uk lt2) (trodAll_cons_mk (Below.trod laidOut (by kernel_rfl) (of_decide_eq_true (by kernel_rfl)) k3 Uk lt3) trodAll_mk0)))),rfl,Uk.frame _,fun h=>by cases h⟩
theorem over:Rows.satMoreUptoRow.holds Tryz.pinned (Rows.OpenSpec.upto Rows.satMoreSpec) :=
 OpenClaim.holds_of_cond 7 Tryz.f7 rfl rfl rfl rfl rfl rfl rfl ⟨rfl,rfl,rfl,rfl,rfl⟩ rfl rfl rfl rfl rfl (by kernel_rfl) Tryz.func7 (by kernel_rfl)
  (of_decide_eq_true (by kernel_rfl)) (by unfold Func.isWrapper;first | (rw[if_pos (by decide +kernel)];kernel_rfl) | (rw[if_neg (by decide +kernel)];exact⟨rfl,rfl⟩))
  (fun os started H enc _ F=>lifted os started H enc F)
end Go.Proofs.YthbbmdnfkkffjaaGreat.satMoreUpto
namespace Go.Proofs.YthbbmdnfkkffjaaGreat
theorem satMoreUpto_holds:Rows.SatMoreUptoSaid:=satMoreUpto.over
#print axioms satMoreUpto_holds
end Go.Proofs.YthbbmdnfkkffjaaGreat
