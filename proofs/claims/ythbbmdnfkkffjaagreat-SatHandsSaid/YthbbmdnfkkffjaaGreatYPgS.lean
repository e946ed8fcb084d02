/-
  A search that can't begin, and Solve laid open.
-/
import Derived.Test.YthbbmdnfkkffjaaGreatY44
import Derived.Test.YthbbmdnfkkffjaaGreatY01
set_option maxHeartbeats 8000000
set_option maxRecDepth 100000
namespace Go.Proofs.YthbbmdnfkkffjaaGreat
open Go.Proofs.aA
open Go.Proofs.au hiding SM
theorem iO.fr {S T:SM} (h:iO S T) (k:S.fresh=S.given.length):T.fresh=T.given.length:=by rw[h.same.1,h.same.2.1];exact k
theorem Dead.begins {S:SM} (h:Dead S):(S.begins S.fresh).2=0:=by
 have hs:=Cx S S.fresh;apply Classical.byContradiction;intro hne;have hle:=hs.le;have h1:=hs.yes 0 (by omega);obtain⟨y,hy,e⟩:=List.mem_map.1 (hs.perm.mem_iff.1 (aU (S.begins S.fresh).1 0 (by omega)));have:=h.2 y hy;rw[e] at this;omega
theorem Dead.start {S:SM} (h:Dead S):S.start.2=false:=by
 have hf:S.given.length-S.fresh=(S.given.length-S.fresh-1)+1:=by have:=h.1;omega
 have e:S.start=SM.lJ (S.given.length-S.fresh) S:=rfl;rw[e,hf,Aa];have hst:started S=if (S.begin_ S.fresh).2=-1 then (S.begin_ S.fresh).1.follow else S.begin_ S.fresh:=rfl
 have hb:S.begin_ S.fresh=(S.attach (S.begins S.fresh).1 S.fresh,(S.cls.length:Int)):=by unfold SM.begin_;rw[if_pos h.begins]
 have hne:((S.cls.length:Nat):Int)≠-1:=by omega
 rw[hst,hb,if_neg hne];rw[if_neg hne]
theorem solve_eq (S:SM) (asm:List Int):S.solve asm=if (S.reset asm).follow.2=-1 then (if (S.reset asm).follow.1.start.2=true then ((((SM.gI asm (SM.qI (S.reset asm).follow.1.start.1 asm) (S.reset asm).follow.1.start.1 64).getD ((S.reset asm).follow.1.start.1,0)).1.back 0),((SM.gI asm (SM.qI (S.reset asm).follow.1.start.1 asm) (S.reset asm).follow.1.start.1 64).getD ((S.reset asm).follow.1.start.1,0)).1.told,((SM.gI asm (SM.qI (S.reset asm).follow.1.start.1 asm) (S.reset asm).follow.1.start.1 64).getD ((S.reset asm).follow.1.start.1,0)).2) else ((S.reset asm).follow.1.start.1,(S.reset asm).follow.1.start.1.told,0)) else ((S.reset asm).follow.1.ended (S.reset asm).follow.2.toNat,2,0):=rfl
end Go.Proofs.YthbbmdnfkkffjaaGreat
