/-
  SatHands: the law, proved: whatever the input, it returns true and the input reads as it did.
-/
import Derived.Test.YthbbmdnfkkffjaaGreatYHa1
import Derived.Test.YthbbmdnfkkffjaaGreatY44
import Derived.Test.YthbbmdnfkkffjaaGreatRows
import Derived.Test.YthbbmdnfkkffjaaGreatY01
set_option maxHeartbeats 8000000
set_option maxRecDepth 100000
namespace Go.Proofs.YthbbmdnfkkffjaaGreat.satHands
open Go.ChangeShapes Go.WideShapes Go.ChangeAt Go.RowKit Go.Proofs.aC
theorem own:ownKnob Tryz.prog.godebug=none:=by kernel_rfl
theorem laidOut:laidOutB Tryz.prog=true:=by kernel_rfl
theorem cellsS:Tryz.prog.cellsOf 29=2:=by kernel_rfl
theorem tC:Tryz.prog.bytesOf 29=32:=by kernel_rfl
theorem tF:Tryz.prog.cellsOf 27=1:=by kernel_rfl
theorem kU:Tryz.prog.cellsOf 3=1:=by kernel_rfl
theorem tH:Tryz.prog.bytesOf 3=8:=by kernel_rfl
theorem lifted (os:Os) (started:os.Started) (H:Type) (enc:TypeId×Value→H) :
  ReturnsInHanded {} Tryz.checked os 12 .any (Rows.satHandsSpec.pre6 enc Tryz.prog Tryz.f12 Rows.satHandsRow.domain false) (Rows.satHandsSpec.post enc Tryz.prog Tryz.f12 false true false false):=by
 refine returnsInHanded_of_change_sized (C:=Tryz.checked) own started (by kernel_rfl) Tryz.func12
  (ChangeSpec.witness6 (enc:=enc) (C:=Tryz.checked) false ⟨#[],#[.slice none 0 0],[]⟩ 8 (by kernel_rfl) (by kernel_rfl) (by kernel_rfl) (by kernel_rfl)) ?_
 intro W base args ds gs before hval0 hW hcnd hsz0 _;have hsz:(DataW.weightsEach Tryz.prog (Tryz.f12.params.toList++Rows.satHandsSpec.plain.varTypes Tryz.prog) (ds++gs)).all (·≤reachBytes)=true:=hsz0;have hval:∀ (j:Nat) t v,Tryz.f12.params[j]?=some t→args[j]?=some v→Value.okWide Tryz.prog W .any base t v:=hval0;have hW':=hW;obtain⟨p,q,hA0,hV,rfl,hfz,hnd⟩:=hW;have hA:DataW.TrodAll enc Tryz.prog W 0 (fun _=>true) true Tryz.f12.params.toList args.toList ds p:=hA0;rw[Tryz.params12] at hA hval hsz;obtain⟨v0,vs0,d0,ds0,p0,q0,hargs,rfl,rfl,h0,r0⟩:=trodAll_cons hA;obtain⟨rfl,rfl,rfl⟩:=trodAll_nil r0;obtain rfl:args=#[v0]:=by cases args;simp_all
 obtain⟨rfl,rfl⟩:=trodVars_none hV;obtain⟨a0,SB,cap0,rfl⟩:=okWide_slice Tryz.underlying22 (hval 0 22 v0 rfl rfl);have k0:=h0;have lt0:∀ x∈p0,x.block<W.heap.size:=by obtain⟨m,hm⟩:=k0;exact DataW.trod_lt m _ _ _ hm
 obtain⟨z0,w0⟩:=pG hsz (j:=0) rfl rfl Tryz.underlying22 Tryz.underlying29 cellsS rfl rfl kU tF Tryz.underlying3 Tryz.underlying27 Tryz.underlying3 kU tC tH h0;clear hA0 hval0 hsz0 hsz;refine (satHands_any a0 SB cap0 z0 W w0).mono fun e W' ⟨he,Uk⟩=>?_;subst he;exact⟨_,rfl,_,_,_,[],_,[],hW',trodAll_mk1 (shut_bool Tryz.underlying4 _),(trodAll_cons_mk (Below.trod laidOut (by kernel_rfl) (of_decide_eq_true (by kernel_rfl)) k0 Uk lt0) trodAll_mk0),rfl,Uk.frame _,fun h=>by cases h⟩
theorem over:Rows.satHandsRow.holds Tryz.pinned (OpenSpec.ofChange Rows.satHandsSpec) :=
 OpenClaim.holds_of_wide 12 Tryz.f12 rfl rfl rfl rfl rfl rfl rfl ⟨rfl,rfl,rfl,rfl,rfl⟩ rfl rfl rfl rfl rfl (by kernel_rfl) Tryz.func12 (by kernel_rfl)
  (of_decide_eq_true (by kernel_rfl)) (by unfold Func.isWrapper;first | (rw[if_pos (by decide +kernel)];kernel_rfl) | (rw[if_neg (by decide +kernel)];exact⟨rfl,rfl⟩))
  (fun os started H enc _=>lifted os started H enc)
end Go.Proofs.YthbbmdnfkkffjaaGreat.satHands
namespace Go.Proofs.YthbbmdnfkkffjaaGreat
theorem satHands_holds:Rows.SatHandsSaid:=satHands.over
#print axioms satHands_holds
end Go.Proofs.YthbbmdnfkkffjaaGreat
