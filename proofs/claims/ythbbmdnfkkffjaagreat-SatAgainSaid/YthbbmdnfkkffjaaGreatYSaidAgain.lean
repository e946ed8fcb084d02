/-
  SatAgain: the law, proved: whatever the input, it returns true and the input reads as it did.
-/
import Derived.Test.YthbbmdnfkkffjaaGreatYAg1
import Derived.Test.YthbbmdnfkkffjaaGreatY44
import Derived.Test.YthbbmdnfkkffjaaGreatYOpenU
import Derived.Test.YthbbmdnfkkffjaaGreatYOpenR
import Derived.Test.YthbbmdnfkkffjaaGreatRows
import Derived.Test.YthbbmdnfkkffjaaGreatY01
set_option maxHeartbeats 8000000
set_option maxRecDepth 100000
namespace Go.Proofs.YthbbmdnfkkffjaaGreat.satAgain
open Go.ChangeShapes Go.WideShapes Go.ChangeAt Go.RowKit Go.Proofs.aC
theorem own:ownKnob Tryz.prog.godebug=none:=by kernel_rfl
theorem laidOut:laidOutB Tryz.prog=true:=by kernel_rfl
theorem cellsS:Tryz.prog.cellsOf 29=2:=by kernel_rfl
theorem tC:Tryz.prog.bytesOf 29=32:=by kernel_rfl
theorem tF:Tryz.prog.cellsOf 27=1:=by kernel_rfl
theorem kU:Tryz.prog.cellsOf 3=1:=by kernel_rfl
theorem tH:Tryz.prog.bytesOf 3=8:=by kernel_rfl
theorem lifted (os:Os) (started:os.Started) (H:Type) (enc:TypeId×Value→H) :
  ReturnsInHanded {} Tryz.checked os 6 .any (Rows.satAgainSpec.pre6 enc Tryz.prog Tryz.f6 Rows.satAgainRow.domain false) (Rows.satAgainSpec.post enc Tryz.prog Tryz.f6 false true false false):=by
 refine returnsInHanded_of_change_sized (C:=Tryz.checked) own started (by kernel_rfl) Tryz.func6
  (ChangeSpec.witness6 (enc:=enc) (C:=Tryz.checked) false ⟨#[],#[.slice none 0 0,.slice none 0 0],[]⟩ 8 (by kernel_rfl) (by kernel_rfl) (by kernel_rfl) (by kernel_rfl)) ?_
 intro W base args ds gs before hval0 hW hcnd hsz0 _;have hsz:(DataW.weightsEach Tryz.prog (Tryz.f6.params.toList++Rows.satAgainSpec.plain.varTypes Tryz.prog) (ds++gs)).all (·≤reachBytes)=true:=hsz0;have hval:∀ (j:Nat) t v,Tryz.f6.params[j]?=some t→args[j]?=some v→Value.okWide Tryz.prog W .any base t v:=hval0;have hW':=hW;obtain⟨p,q,hA0,hV,rfl,hfz,hnd⟩:=hW;have hA:DataW.TrodAll enc Tryz.prog W 0 (fun _=>true) true Tryz.f6.params.toList args.toList ds p:=hA0;rw[Tryz.params6] at hA hval hsz;obtain⟨v0,vs0,d0,ds0,p0,q0,hargs,rfl,rfl,h0,r0⟩:=trodAll_cons hA;obtain⟨v1,vs1,d1,ds1,p1,q1,rfl,rfl,rfl,h1,r1⟩:=trodAll_cons r0;obtain⟨rfl,rfl,rfl⟩:=trodAll_nil r1;obtain rfl:args=#[v0,v1]:=by cases args;simp_all
 obtain⟨rfl,rfl⟩:=trodVars_none hV;obtain⟨a0,SB,cap0,rfl⟩:=okWide_slice Tryz.underlying22 (hval 0 22 v0 rfl rfl);have k0:=h0;have lt0:∀ x∈p0,x.block<W.heap.size:=by obtain⟨m,hm⟩:=k0;exact DataW.trod_lt m _ _ _ hm
 obtain⟨z0,w0⟩:=pG hsz (j:=0) rfl rfl Tryz.underlying22 Tryz.underlying29 cellsS rfl rfl kU tF Tryz.underlying3 Tryz.underlying27 Tryz.underlying3 kU tC tH h0;obtain⟨a1,len1,ai5,rfl⟩:=okWide_slice Tryz.underlying27 (hval 1 27 v1 rfl rfl);have k1:=h1;have lt1:∀ x∈p1,x.block<W.heap.size:=by obtain⟨m,hm⟩:=k1;exact DataW.trod_lt m _ _ _ hm
 obtain⟨z1,w1,x1⟩:=open_row2 hsz (j:=1) rfl rfl Tryz.underlying27 Tryz.underlying3 kU tH h1;obtain⟨lc0,ld0⟩:=open_steps_d Tryz.underlying22 Tryz.underlying29 cellsS rfl rfl kU tF h0
 have lz0:SB*32≤140737488351232:=by
  rcases ld0 with h | ⟨el,sp,rfl,h⟩
  ·omega
  ·have z:=sized_slice hsz (j:=0) rfl rfl Tryz.underlying22;rw[tC] at z;have hr:reachBytes=140737488351232:=rfl;omega
 clear hA0 hval0 hsz0 hsz;refine (satAgain_any a0 SB cap0 z0 a1 len1 ai5 z1 W w0 w1 lc0 lz0).mono fun e W' ⟨he,Uk⟩=>?_;subst he;exact⟨_,rfl,_,_,_,[],_,[],hW',trodAll_mk1 (shut_bool Tryz.underlying4 _),(trodAll_cons_mk (Below.trod laidOut (by kernel_rfl) (of_decide_eq_true (by kernel_rfl)) k0 Uk lt0) (trodAll_cons_mk (Below.trod laidOut (by kernel_rfl) (of_decide_eq_true (by kernel_rfl)) k1 Uk lt1) trodAll_mk0)),rfl,Uk.frame _,fun h=>by cases h⟩
theorem over:Rows.satAgainRow.holds Tryz.pinned (OpenSpec.ofChange Rows.satAgainSpec) :=
 OpenClaim.holds_of_wide 6 Tryz.f6 rfl rfl rfl rfl rfl rfl rfl ⟨rfl,rfl,rfl,rfl,rfl⟩ rfl rfl rfl rfl rfl (by kernel_rfl) Tryz.func6 (by kernel_rfl)
  (of_decide_eq_true (by kernel_rfl)) (by unfold Func.isWrapper;first | (rw[if_pos (by decide +kernel)];kernel_rfl) | (rw[if_neg (by decide +kernel)];exact⟨rfl,rfl⟩))
  (fun os started H enc _=>lifted os started H enc)
end Go.Proofs.YthbbmdnfkkffjaaGreat.satAgain
namespace Go.Proofs.YthbbmdnfkkffjaaGreat
theorem satAgain_holds:Rows.SatAgainSaid:=satAgain.over
#print axioms satAgain_holds
end Go.Proofs.YthbbmdnfkkffjaaGreat
