/-
  Parts of the proof, joined by program: Dec.
-/
import Derived.Test.YthbbmdnfkkffjaaGreatY22
import Derived.Test.YthbbmdnfkkffjaaGreatY01
import Derived.Lib.Hide
set_option maxHeartbeats 8000000
set_option maxRecDepth 100000
namespace Go.Proofs.YthbbmdnfkkffjaaGreat
open Go.RowKit Go.Proofs.aC Go.Proofs.au Go.Proofs.aA
structure YQ (S:SM):Prop where
 lk:MF S
 hb:HB S
 el:S.ends.length≤900000
def BH:Nat→SM→Prop
 | 0,_=>False
 | f+1,S=>YQ S∧YQ S.take.1∧(S.take.2≠0→S.take.2<S.take.1.value.length∧(gi S.take.1.value S.take.2≠0→BH f S.take.1))
def Ju (assume:List Int):Nat→SM→Prop
 | 0,S=>BH (S.hl.length+1) S
 | f+1,S=>YQ S∧aJ (gi assume S.ends.length)/2<S.value.length∧(S.bF (aJ (gi assume S.ends.length))=-1→∃ Z rk,aev S assume (aJ (gi assume S.ends.length)) Z rk) ∧
  (S.bF (aJ (gi assume S.ends.length))≠-1→S.bF (aJ (gi assume S.ends.length))=1→Ju assume f S.open_)
theorem YR {zs:List Bool} {N k:Nat} {b:Bool} (hl:zs.length=N) (hk:k<N) (hb:gB zs k=b):(zs.take k++List.replicate (N-k) false).set k b=zs.take (k+1)++List.replicate (N-(k+1)) false:=by
 have h1:N-k=(N-(k+1))+1:=by omega
 have h2:zs[k]'(by omega)=b:=by rw[←hb];simp[gB,hl,hk]
 rw[List.set_append_right _ _ (by rw[List.length_take];omega),List.length_take,show k-min k zs.length=0 by omega,h1,List.replicate_succ,List.set_cons_zero,List.take_succ_eq_append_getElem (by omega),h2];simp
section
variable {B:Nat} {w0 w:World} {p:Nat} {M:MM} {F:HP}
theorem Rk (A:Option Addr) (na ca:Nat) (assume:List Int) (h:At B w0 w p M F) (hst:fM B w0 F A na assume) (hlen:assume.length≤900000) (Jd:∀ a∈assume,a.natAbs≤65536) (hvar:∀ a∈assume,aJ a/2<M.sv.value.length) (hok:Ju assume (assume.length-M.sv.ends.length) M.sv) :
  Calls Tryz.prog 73 #[.pointer (some ⟨p,0,none⟩),.slice A na ca] w fun e w'=>e=.returned (.bool (M.sv.iV assume).2)∧∃ M',At B w0 w' p M' F∧M'.sv=(M.sv.iV assume).1:=by
 obtain⟨R,hR⟩:∃ R,M.sv.iV assume=R:=⟨_,rfl⟩;rw[hR];have hna:assume.length=na:=(At.YD hst h).len;have H:=zH h;have HST:=zH hst;have TD:=zH hna;have Db:=zH Jd;have HVA:=zH hvar;have fA:=zH hok;have HR:=zH (show SM.jv assume (assume.length-M.sv.ends.length) M.sv=R from hR);rw[hna] at hlen;clear h hst hna Jd hvar hok hR
 go_enter Tryz.func73,Tryz.ntmps73
 go_wp2
 go_loopg [] (na-M.sv.ends.length) (fun g wr=>∃ N:MM,Hid (At B w0 wr p N F)∧Hid (SM.jv assume g N.sv=R)∧Hid (Ju assume g N.sv)∧Hid (g=na-N.sv.ends.length∧N.sv.value.length=M.sv.value.length))
 case atStart=>exact⟨M,H,zH (by rw[←TD.out];exact HR.out),zH (by rw[←TD.out];exact fA.out),⟨rfl,rfl⟩⟩
 case round =>
  obtain⟨N,H0,HG,HO,HE⟩:=hrel;obtain⟨ne,hne⟩:∃ n,N.ends.xs.length=n:=⟨_,rfl⟩;obtain⟨nt,hnt⟩:∃ n,N.trail.xs.length=n:=⟨_,rfl⟩;have hat:=KE H0.out;rw[hne] at hat
  have HAT:=zH hat
  have tL:=zH hne;have wJ:=zH hnt;have hge:=HE.out.1;rw[show N.sv.ends.length=ne from hne] at hge;clear hat hne hnt
  go_wp2_with fail
  refine HAT.out.mono ?_
  rintro e w1 ⟨rfl,rfl⟩
  by_cases hlt:ne<na
  ·have e1:decide ((ne:Int)<(na:Int))=true:=by simp;omega
   obtain⟨g,rfl⟩:∃ g,gk=g+1:=⟨na-ne-1,by omega⟩;obtain⟨o1,o2,o3,o4⟩:=HO.out;have hgo:=HG.out;rw[SM.jv] at hgo;rw[show N.sv.ends.length=ne from tL.out] at o2 o3 o4 hgo;obtain⟨a,ha⟩:∃ a,gi assume ne=a:=⟨_,rfl⟩;have hkx:ne<assume.length:=by rw[TD.out];exact hlt
   have Qa:a∈assume:=by rw[←ha,dh _ _ hkx];exact List.getElem_mem hkx
   have hal:=Db.out a Qa;obtain⟨b,o,rfl,hc⟩:=(At.YD HST.out H0.out).cells (by omega);have k3:=hc ne hlt;rw[ha] at o2 o3 o4 hgo k3;have Rl:=zH (fun V=>uK a V (by omega) (by omega));obtain⟨l,hl⟩:∃ l,aJ a=l:=⟨_,rfl⟩;rw[hl] at Rl o2 o3 o4;simp only[hl] at hgo;have his:=mQ l H0.out o2 o1.lk.small (o1.lk.val _);obtain⟨sg,hsg⟩:∃ s,N.sv.bF l=s:=⟨_,rfl⟩;rw[hsg] at his o3 o4;simp only[hsg] at hgo;have HIS:=zH his;have HSG:=zH hsg;have Wp:=zH o1;have HO2:=zH o2;have HO3:=zH o3;have HO4:=zH o4;have FR:=zH hgo;have HL:=zH hl;have HAM:=zH Qa;have p0:(0:Int)≤(ne:Int):=by omega
   have p1:(ne:Int)<(na:Int):=by omega
   clear o1 o2 o3 o4 hgo his hsg ha hkx Qa hal hc hl HO HG
   go_wp2_with fail
   refine HAT.out.mono ?_
   rintro e w2 ⟨rfl,rfl⟩
   go_wp2_with fail
   refine (Rl.out _).mono ?_
   rintro e w2 ⟨rfl,rfl⟩
   go_wp2_with fail
   refine HIS.out.mono ?_
   rintro e w2 ⟨rfl,hd⟩
   have H1:=zH (H0.out.drawn hd);clear hd HIS HAT k3
   by_cases hs1:sg=-1
   ·subst hs1;have e2:decide ((-1:Int)=-1)=true:=by simp
    obtain⟨Z,rk,hrf⟩:=HO3.out rfl;have YE:=zH (Ng (some ⟨b,o,none⟩) na ca assume l H1.out HST.out hrf);have hgo:=FR.out;rw[if_pos rfl] at hgo;have ku:=zH hgo;clear hrf hgo
    go_wp2_with fail
    refine YE.out.mono ?_
    rintro e w3 ⟨rfl,M3,h3,h4⟩
    have H3:=zH h3;have H4:=zH h4;clear h3 h4 YE
    go_wp2
    go_ret
    exact⟨by rw[←ku.out];rfl,M3,H3.out,by rw[←ku.out];exact H4.out⟩
   ·have e2:decide (sg=-1)=false:=by simpa using hs1
    by_cases hs2:sg=1
    ·subst hs2;have e3:decide ((1:Int)=1)=true:=by simp
     have hgo:=FR.out;rw[if_neg hs1,if_pos rfl] at hgo;have ku:=zH hgo;have hneb:=Wp.out.el;rw[show N.sv.ends.length=ne from tL.out] at hneb;have abF:=Wp.out.lk.trail;rw[show N.sv.trail.length=nt from wJ.out] at abF;clear hgo
     go_upto_region 8 with fail
     have cE:=H1.out.qo;have cT:=H1.out.jV;have tE:=H1.out.uG;rw[tL.out] at cE tE;rw[wJ.out] at cT;have HTE:=zH tE;have Jh:=zH H1.out.bA;clear tE;refine dn 14 (fun V:World=>V.cell? ⟨p,13,none⟩=some (.slice (N.ends.a.map fun b=>⟨b,0,none⟩) ne N.ends.c)∧V.cell? ⟨p,12,none⟩=some (.slice (N.trail.a.map fun b=>⟨b,0,none⟩) nt N.trail.c)) (by kernel_rfl) ?_;have bB:(fun V:World=>V.cell? ⟨p,13,none⟩=some (.slice (N.ends.a.map fun b=>⟨b,0,none⟩) ne N.ends.c)∧V.cell? ⟨p,12,none⟩=some (.slice (N.trail.a.map fun b=>⟨b,0,none⟩) nt N.trail.c)) w2.drew:=⟨cE,cT⟩;refine ay (i:=0) (v:=?v0_1) rfl (by kernel_rfl) (by kernel_rfl) (by kernel_rfl) (by kernel_rfl) (fun _ _ _ h=>h) rfl ?aht bB ?_
     case aht =>
      intro V aF
      try dsimp only at aF
      first | (obtain⟨aS,aT,cK⟩:=aF) | (obtain⟨aS,aT⟩:=aF) | skip
      go_simp
      try with_reducible rfl
     try simp only[Act.put,List.setIfInBounds_toArray,List.set_cons_zero,List.set_cons_succ]
     refine ay (i:=1) (v:=?v0_2) rfl (by kernel_rfl) (by kernel_rfl) (by kernel_rfl) (by kernel_rfl) (fun _ _ _ h=>h) rfl ?ahu bB ?_
     case ahu =>
      intro V aF
      try dsimp only at aF
      first | (obtain⟨aS,aT,cK⟩:=aF) | (obtain⟨aS,aT⟩:=aF) | skip
      go_simp
      try with_reducible rfl
     try simp only[Act.put,List.setIfInBounds_toArray,List.set_cons_zero,List.set_cons_succ]
     refine ay (i:=2) (v:=?v0_3) rfl (by kernel_rfl) (by kernel_rfl) (by kernel_rfl) (by kernel_rfl) (fun _ _ _ h=>h) rfl ?ahv bB ?_
     case ahv =>
      intro V aF
      try dsimp only at aF
      first | (obtain⟨aS,aT,cK⟩:=aF) | (obtain⟨aS,aT⟩:=aF) | skip
      go_simp
      try with_reducible rfl
     try simp only[Act.put,List.setIfInBounds_toArray,List.set_cons_zero,List.set_cons_succ]
     refine ay (i:=3) (v:=?v0_4) rfl (by kernel_rfl) (by kernel_rfl) (by kernel_rfl) (by kernel_rfl) (fun _ _ _ h=>h) rfl ?ahw bB ?_
     case ahw =>
      intro V aF
      try dsimp only at aF
      first | (obtain⟨aS,aT,cK⟩:=aF) | (obtain⟨aS,aT⟩:=aF) | skip
      go_simp
      try with_reducible rfl
     try simp only[Act.put,List.setIfInBounds_toArray,List.set_cons_zero,List.set_cons_succ]
     refine ay (i:=4) (v:=?v0_5) rfl (by kernel_rfl) (by kernel_rfl) (by kernel_rfl) (by kernel_rfl) (fun _ _ _ h=>h) rfl ?ahx bB ?_
     case ahx =>
      intro V aF
      try dsimp only at aF
      first | (obtain⟨aS,aT,cK⟩:=aF) | (obtain⟨aS,aT⟩:=aF) | skip
      go_simp
      try with_reducible rfl
     try simp only[Act.put,List.setIfInBounds_toArray,List.set_cons_zero,List.set_cons_succ]
     refine ay (i:=5) (v:=?v0_6) rfl (by kernel_rfl) (by kernel_rfl) (by kernel_rfl) (by kernel_rfl) (fun _ _ _ h=>h) rfl ?ahy bB ?_
     case ahy =>
      intro V aF
      try dsimp only at aF
      first | (obtain⟨aS,aT,cK⟩:=aF) | (obtain⟨aS,aT⟩:=aF) | skip
      go_simp
      try with_reducible rfl
     try simp only[Act.put,List.setIfInBounds_toArray,List.set_cons_zero,List.set_cons_succ]
     refine ay (i:=6) (v:=?v0_7) rfl (by kernel_rfl) (by kernel_rfl) (by kernel_rfl) (by kernel_rfl) (fun _ _ _ h=>h) rfl ?ahz bB ?_
     case ahz =>
      intro V aF
      try dsimp only at aF
      first | (obtain⟨aS,aT,cK⟩:=aF) | (obtain⟨aS,aT⟩:=aF) | skip
      go_simp
      try with_reducible rfl
     try simp only[Act.put,List.setIfInBounds_toArray,List.set_cons_zero,List.set_cons_succ]
     refine ay (i:=7) (v:=?v0_8) rfl (by kernel_rfl) (by kernel_rfl) (by kernel_rfl) (by kernel_rfl) (fun _ _ _ h=>h) rfl ?ahA bB ?_
     case ahA =>
      intro V aF
      try dsimp only at aF
      first | (obtain⟨aS,aT,cK⟩:=aF) | (obtain⟨aS,aT⟩:=aF) | skip
      go_simp
      try with_reducible rfl
     try simp only[Act.put,List.setIfInBounds_toArray,List.set_cons_zero,List.set_cons_succ]
     refine ay (i:=8) (v:=?v0_9) rfl (by kernel_rfl) (by kernel_rfl) (by kernel_rfl) (by kernel_rfl) (fun _ _ _ h=>h) rfl ?ahB bB ?_
     case ahB =>
      intro V aF
      try dsimp only at aF
      first | (obtain⟨aS,aT,cK⟩:=aF) | (obtain⟨aS,aT⟩:=aF) | skip
      go_simp
      try with_reducible rfl
     try simp only[Act.put,List.setIfInBounds_toArray,List.set_cons_zero,List.set_cons_succ]
     refine ay (i:=9) (v:=?v0_10) rfl (by kernel_rfl) (by kernel_rfl) (by kernel_rfl) (by kernel_rfl) (fun _ _ _ h=>h) rfl ?aeC bB ?_
     case aeC =>
      intro V aF
      try dsimp only at aF
      first | (obtain⟨aS,aT,cK⟩:=aF) | (obtain⟨aS,aT⟩:=aF) | skip
      go_simp
      try with_reducible rfl
     try simp only[Act.put,List.setIfInBounds_toArray,List.set_cons_zero,List.set_cons_succ]
     refine bf (i:=10) (by kernel_rfl) rfl (fun K hK=>?_)
     go_simp
     refine hK _ _ (⟨(World.cell?_alloc_some w2.drew _ (Obj.cells #[Value.int IntKind.i64 nt] 3) (by rw[bB.1];rfl)).trans bB.1,(World.cell?_alloc_some w2.drew _ (Obj.cells #[Value.int IntKind.i64 nt] 3) (by rw[bB.2];rfl)).trans bB.2⟩) ?_;clear hK K
     try simp only[Act.put,List.setIfInBounds_toArray,List.set_cons_zero,List.set_cons_succ]
     refine bf (i:=11) (by kernel_rfl) rfl (fun K hK=>?_);refine bN (by rfl) _ _ 27 3 (.int .i64 0) 8 (by rfl) Tryz.underlying27 Tryz.bW rfl (HTE.out.drew.alloc _) (by rfl) w2.heap.size (.int .i64 nt) (by rfl) (fJ w2.drew _ _) rfl (by omega) (by simp only[maxLen];omega) ?_;intro bE Nn wE hs _;obtain⟨⟨kE,fE⟩,kE2⟩:=At.Bj (M:=N) (x:=nt) Jh.out tL.out hs
     have cT2:wE.cell? ⟨p,12,none⟩=some (.slice (N.trail.a.map fun b=>⟨b,0,none⟩) nt N.trail.c):=by
      obtain⟨G,hG⟩:∃ G,star (sl (some bE) (ne+1) Nn 3 1 (N.ends.xs.map vN++[vN nt])) (star (stars ((parts p N).eraseIdx 7)) F)=star (pt p 92 (aI N)) G:=by
       rw[show stars ((parts p N).eraseIdx 7)=star (pt p 92 (aI N)) (stars (((parts p N).eraseIdx 7).eraseIdx 0)) from aZ rfl];exact⟨star (sl (some bE) (ne+1) Nn 3 1 (N.ends.xs.map vN++[vN nt])) (star (stars (((parts p N).eraseIdx 7).eraseIdx 0)) F),by ac_rfl⟩
      have h9:=(hs.aB hG).aG 12;rw[←wJ.out];exact h9
     have HS2:(fun V:World=>V.cell? ⟨p,13,none⟩=some (.slice (N.ends.a.map fun b=>⟨b,0,none⟩) ne N.ends.c)∧V.cell? ⟨p,12,none⟩=some (.slice (N.trail.a.map fun b=>⟨b,0,none⟩) nt N.trail.c)) wE:=⟨kE,cT2⟩;have HE9:=zH kE2;clear hs kE2;refine hK _ _ HS2 ?_;clear hK K
     try simp only[Act.put,List.setIfInBounds_toArray,List.set_cons_zero,List.set_cons_succ]
     refine bf (i:=12) (by kernel_rfl) rfl (fun K hK=>?_)
     go_simp
     refine hK _ _ (HS2) ?_;clear hK K
     try simp only[Act.put,List.setIfInBounds_toArray,List.set_cons_zero,List.set_cons_succ]
     refine bf (i:=13) (by kernel_rfl) rfl (fun K hK=>?_)
     go_simp
     refine hK _ _ (HS2) ?_;clear hK K
     try simp only[Act.put,List.setIfInBounds_toArray,List.set_cons_zero,List.set_cons_succ]
     refine iy (by kernel_rfl) rfl (by kernel_rfl) (fun K hK=>?_)
     go_simp
     refine hK _ _ ?_;clear hK K;clear bB HS2 cE cT kE fE cT2 HTE Jh;have hso:MM.sv (N.uo ⟨some bE,Nn,N.ends.xs++[nt]⟩)=(MM.sv N).open_:=by unfold SM.open_;rw[show (MM.sv N).trail.length=nt from wJ.out];rfl
     obtain⟨ME,YS⟩:∃ ME,N.uo ⟨some bE,Nn,N.ends.xs++[nt]⟩=ME:=⟨_,rfl⟩;have hvE:ME.value=N.value∧ME.level=N.level∧ME.reason=N.reason∧ME.trail=N.trail∧ME.phase=N.phase:=by rw[←YS];exact⟨rfl,rfl,rfl,rfl,rfl⟩
     have KW:=zH hvE;rw[YS] at hso HE9;have Ai:=zH hso;clear hso YS hvE;revert HE9;generalize wE.setCell ⟨p,13,none⟩ (.slice (some ⟨bE,0,none⟩) (ne+1) Nn)=w5;intro H5
     go_wp2
     go_roundg g
     case measure=>omega
     case rel=>exact⟨ME,H5,zH (by rw[Ai.out];exact ku.out),zH (by rw[Ai.out];exact HO4.out (by decide) (by first | rfl | trivial)),⟨by rw[Ai.out];show g=na-((MM.sv N).ends++[(MM.sv N).trail.length]).length;rw[List.length_append,show (MM.sv N).ends.length=ne from tL.out];simp;omega,by rw[Ai.out];exact HE.out.2⟩⟩
    ·have e3:decide (sg=1)=false:=by simpa using hs2
     have hgo:=FR.out;rw[if_neg hs1,if_neg hs2] at hgo;have ku:=zH hgo;have hneb:=Wp.out.el;rw[show N.sv.ends.length=ne from tL.out] at hneb;have abF:=Wp.out.lk.trail;rw[show N.sv.trail.length=nt from wJ.out] at abF;clear hgo
     go_upto_region 9 with fail
     have cE:=H1.out.qo;have cT:=H1.out.jV;have tE:=H1.out.uG;rw[tL.out] at cE tE;rw[wJ.out] at cT;have HTE:=zH tE;have Jh:=zH H1.out.bA;clear tE;refine dn 14 (fun V:World=>V.cell? ⟨p,13,none⟩=some (.slice (N.ends.a.map fun b=>⟨b,0,none⟩) ne N.ends.c)∧V.cell? ⟨p,12,none⟩=some (.slice (N.trail.a.map fun b=>⟨b,0,none⟩) nt N.trail.c)) (by kernel_rfl) ?_;have bB:(fun V:World=>V.cell? ⟨p,13,none⟩=some (.slice (N.ends.a.map fun b=>⟨b,0,none⟩) ne N.ends.c)∧V.cell? ⟨p,12,none⟩=some (.slice (N.trail.a.map fun b=>⟨b,0,none⟩) nt N.trail.c)) w2.drew:=⟨cE,cT⟩;refine ay (i:=0) (v:=?v1_1) rfl (by kernel_rfl) (by kernel_rfl) (by kernel_rfl) (by kernel_rfl) (fun _ _ _ h=>h) rfl ?ahC bB ?_
     case ahC =>
      intro V aF
      try dsimp only at aF
      first | (obtain⟨aS,aT,cK⟩:=aF) | (obtain⟨aS,aT⟩:=aF) | skip
      go_simp
      try with_reducible rfl
     try simp only[Act.put,List.setIfInBounds_toArray,List.set_cons_zero,List.set_cons_succ]
     refine ay (i:=1) (v:=?v1_2) rfl (by kernel_rfl) (by kernel_rfl) (by kernel_rfl) (by kernel_rfl) (fun _ _ _ h=>h) rfl ?ahD bB ?_
     case ahD =>
      intro V aF
      try dsimp only at aF
      first | (obtain⟨aS,aT,cK⟩:=aF) | (obtain⟨aS,aT⟩:=aF) | skip
      go_simp
      try with_reducible rfl
     try simp only[Act.put,List.setIfInBounds_toArray,List.set_cons_zero,List.set_cons_succ]
     refine ay (i:=2) (v:=?v1_3) rfl (by kernel_rfl) (by kernel_rfl) (by kernel_rfl) (by kernel_rfl) (fun _ _ _ h=>h) rfl ?ahE bB ?_
     case ahE =>
      intro V aF
      try dsimp only at aF
      first | (obtain⟨aS,aT,cK⟩:=aF) | (obtain⟨aS,aT⟩:=aF) | skip
      go_simp
      try with_reducible rfl
     try simp only[Act.put,List.setIfInBounds_toArray,List.set_cons_zero,List.set_cons_succ]
     refine ay (i:=3) (v:=?v1_4) rfl (by kernel_rfl) (by kernel_rfl) (by kernel_rfl) (by kernel_rfl) (fun _ _ _ h=>h) rfl ?ahF bB ?_
     case ahF =>
      intro V aF
      try dsimp only at aF
      first | (obtain⟨aS,aT,cK⟩:=aF) | (obtain⟨aS,aT⟩:=aF) | skip
      go_simp
      try with_reducible rfl
     try simp only[Act.put,List.setIfInBounds_toArray,List.set_cons_zero,List.set_cons_succ]
     refine ay (i:=4) (v:=?v1_5) rfl (by kernel_rfl) (by kernel_rfl) (by kernel_rfl) (by kernel_rfl) (fun _ _ _ h=>h) rfl ?ahG bB ?_
     case ahG =>
      intro V aF
      try dsimp only at aF
      first | (obtain⟨aS,aT,cK⟩:=aF) | (obtain⟨aS,aT⟩:=aF) | skip
      go_simp
      try with_reducible rfl
     try simp only[Act.put,List.setIfInBounds_toArray,List.set_cons_zero,List.set_cons_succ]
     refine ay (i:=5) (v:=?v1_6) rfl (by kernel_rfl) (by kernel_rfl) (by kernel_rfl) (by kernel_rfl) (fun _ _ _ h=>h) rfl ?ahH bB ?_
     case ahH =>
      intro V aF
      try dsimp only at aF
      first | (obtain⟨aS,aT,cK⟩:=aF) | (obtain⟨aS,aT⟩:=aF) | skip
      go_simp
      try with_reducible rfl
     try simp only[Act.put,List.setIfInBounds_toArray,List.set_cons_zero,List.set_cons_succ]
     refine ay (i:=6) (v:=?v1_7) rfl (by kernel_rfl) (by kernel_rfl) (by kernel_rfl) (by kernel_rfl) (fun _ _ _ h=>h) rfl ?ahI bB ?_
     case ahI =>
      intro V aF
      try dsimp only at aF
      first | (obtain⟨aS,aT,cK⟩:=aF) | (obtain⟨aS,aT⟩:=aF) | skip
      go_simp
      try with_reducible rfl
     try simp only[Act.put,List.setIfInBounds_toArray,List.set_cons_zero,List.set_cons_succ]
     refine ay (i:=7) (v:=?v1_8) rfl (by kernel_rfl) (by kernel_rfl) (by kernel_rfl) (by kernel_rfl) (fun _ _ _ h=>h) rfl ?ahJ bB ?_
     case ahJ =>
      intro V aF
      try dsimp only at aF
      first | (obtain⟨aS,aT,cK⟩:=aF) | (obtain⟨aS,aT⟩:=aF) | skip
      go_simp
      try with_reducible rfl
     try simp only[Act.put,List.setIfInBounds_toArray,List.set_cons_zero,List.set_cons_succ]
     refine ay (i:=8) (v:=?v1_9) rfl (by kernel_rfl) (by kernel_rfl) (by kernel_rfl) (by kernel_rfl) (fun _ _ _ h=>h) rfl ?ahK bB ?_
     case ahK =>
      intro V aF
      try dsimp only at aF
      first | (obtain⟨aS,aT,cK⟩:=aF) | (obtain⟨aS,aT⟩:=aF) | skip
      go_simp
      try with_reducible rfl
     try simp only[Act.put,List.setIfInBounds_toArray,List.set_cons_zero,List.set_cons_succ]
     refine ay (i:=9) (v:=?v1_10) rfl (by kernel_rfl) (by kernel_rfl) (by kernel_rfl) (by kernel_rfl) (fun _ _ _ h=>h) rfl ?aeD bB ?_
     case aeD =>
      intro V aF
      try dsimp only at aF
      first | (obtain⟨aS,aT,cK⟩:=aF) | (obtain⟨aS,aT⟩:=aF) | skip
      go_simp
      try with_reducible rfl
     try simp only[Act.put,List.setIfInBounds_toArray,List.set_cons_zero,List.set_cons_succ]
     refine bf (i:=10) (by kernel_rfl) rfl (fun K hK=>?_)
     go_simp
     refine hK _ _ (⟨(World.cell?_alloc_some w2.drew _ (Obj.cells #[Value.int IntKind.i64 nt] 3) (by rw[bB.1];rfl)).trans bB.1,(World.cell?_alloc_some w2.drew _ (Obj.cells #[Value.int IntKind.i64 nt] 3) (by rw[bB.2];rfl)).trans bB.2⟩) ?_;clear hK K
     try simp only[Act.put,List.setIfInBounds_toArray,List.set_cons_zero,List.set_cons_succ]
     refine bf (i:=11) (by kernel_rfl) rfl (fun K hK=>?_);refine bN (by rfl) _ _ 27 3 (.int .i64 0) 8 (by rfl) Tryz.underlying27 Tryz.bW rfl (HTE.out.drew.alloc _) (by rfl) w2.heap.size (.int .i64 nt) (by rfl) (fJ w2.drew _ _) rfl (by omega) (by simp only[maxLen];omega) ?_;intro bE Nn wE hs _;obtain⟨⟨kE,fE⟩,kE2⟩:=At.Bj (M:=N) (x:=nt) Jh.out tL.out hs
     have cT2:wE.cell? ⟨p,12,none⟩=some (.slice (N.trail.a.map fun b=>⟨b,0,none⟩) nt N.trail.c):=by
      obtain⟨G,hG⟩:∃ G,star (sl (some bE) (ne+1) Nn 3 1 (N.ends.xs.map vN++[vN nt])) (star (stars ((parts p N).eraseIdx 7)) F)=star (pt p 92 (aI N)) G:=by
       rw[show stars ((parts p N).eraseIdx 7)=star (pt p 92 (aI N)) (stars (((parts p N).eraseIdx 7).eraseIdx 0)) from aZ rfl];exact⟨star (sl (some bE) (ne+1) Nn 3 1 (N.ends.xs.map vN++[vN nt])) (star (stars (((parts p N).eraseIdx 7).eraseIdx 0)) F),by ac_rfl⟩
      have h9:=(hs.aB hG).aG 12;rw[←wJ.out];exact h9
     have HS2:(fun V:World=>V.cell? ⟨p,13,none⟩=some (.slice (N.ends.a.map fun b=>⟨b,0,none⟩) ne N.ends.c)∧V.cell? ⟨p,12,none⟩=some (.slice (N.trail.a.map fun b=>⟨b,0,none⟩) nt N.trail.c)) wE:=⟨kE,cT2⟩;have HE9:=zH kE2;clear hs kE2;refine hK _ _ HS2 ?_;clear hK K
     try simp only[Act.put,List.setIfInBounds_toArray,List.set_cons_zero,List.set_cons_succ]
     refine bf (i:=12) (by kernel_rfl) rfl (fun K hK=>?_)
     go_simp
     refine hK _ _ (HS2) ?_;clear hK K
     try simp only[Act.put,List.setIfInBounds_toArray,List.set_cons_zero,List.set_cons_succ]
     refine bf (i:=13) (by kernel_rfl) rfl (fun K hK=>?_)
     go_simp
     refine hK _ _ (HS2) ?_;clear hK K
     try simp only[Act.put,List.setIfInBounds_toArray,List.set_cons_zero,List.set_cons_succ]
     refine iy (by kernel_rfl) rfl (by kernel_rfl) (fun K hK=>?_)
     go_simp
     refine hK _ _ ?_;clear hK K;clear bB HS2 cE cT kE fE cT2 HTE Jh;have hso:MM.sv (N.uo ⟨some bE,Nn,N.ends.xs++[nt]⟩)=(MM.sv N).open_:=by unfold SM.open_;rw[show (MM.sv N).trail.length=nt from wJ.out];rfl
     obtain⟨ME,YS⟩:∃ ME,N.uo ⟨some bE,Nn,N.ends.xs++[nt]⟩=ME:=⟨_,rfl⟩;have hvE:ME.value=N.value∧ME.level=N.level∧ME.reason=N.reason∧ME.trail=N.trail∧ME.phase=N.phase:=by rw[←YS];exact⟨rfl,rfl,rfl,rfl,rfl⟩
     have KW:=zH hvE;rw[YS] at hso HE9;have Ai:=zH hso;clear hso YS hvE;revert HE9;generalize wE.setCell ⟨p,13,none⟩ (.slice (some ⟨bE,0,none⟩) (ne+1) Nn)=w5;intro H5;have mV:=zH (vP l (-1) H5 (by rw[KW.out.1];exact HO2.out) (by rw[KW.out.1,KW.out.2.1];exact Wp.out.lk.sz.level) (by rw[KW.out.1,KW.out.2.2.1];exact Wp.out.lk.sz.reason) (by rw[KW.out.1];exact Wp.out.lk.small) (by rw[KW.out.2.2.2.1,wJ.out];omega))
     go_wp2_with fail
     refine mV.out.mono ?_
     rintro e w6 ⟨rfl,z1,z2,z3,z4,h6,h7⟩
     have H6:=zH h6;have zO:=zH h7;clear h6 h7 mV
     go_wp2
     go_ret
     exact⟨by rw[←ku.out];rfl,_,H6.out,by rw[←ku.out,zO.out,Ai.out]⟩
  ·have e1:decide ((ne:Int)<(na:Int))=false:=by simp;omega
   obtain rfl:gk=0:=by omega
   have hpk:BH (N.sv.hl.length+1) N.sv:=HO.out;have hgo:=HG.out;rw[SM.jv] at hgo;obtain⟨P,hP⟩:∃ P,SM.qj (N.sv.hl.length+1) N.sv=P:=⟨_,rfl⟩;rw[hP] at hgo;have FR:=zH hgo;have UK:=zH hP;have Rl:=zH hpk;have qH:=zH (Mr H0.out hpk.1.hb);obtain⟨nh,hnh⟩:∃ n,N.sv.hl.length=n:=⟨_,rfl⟩;rw[hnh] at UK Rl;have Qv:=zH HE.out.2;clear hpk hgo hP hnh HG HO HAT HE hge;obtain⟨v0,hv0⟩:∃ v,N.sv.take.2=v:=⟨_,rfl⟩;rw[hv0] at qH
   go_wp2_with fail
   refine qH.out.mono ?_
   rintro e w1 ⟨rfl,x1,x2,x3,h1,h2⟩
   obtain⟨K0,hK0⟩:∃ K,N.aP x1 x2 x3=K:=⟨_,rfl⟩;rw[hK0] at h1 h2;have H1:=zH h1;have yw:=zH h2;have HV0:=zH hv0;have hvk:K0.sv.value.length=M.sv.value.length:=by rw[←hK0];exact Qv.out
   have HVK:=zH hvk;clear h1 h2 hK0 qH hv0 hvk H0 tL wJ
   go_wp2
   go_loopg [6] nh (fun g s6 wr=>∃ (L:MM) (S0:SM) (v:Nat),s6=.int .i64 v∧Hid (At B w0 wr p L F)∧Hid (L.sv=S0.take.1∧S0.take.2=v∧SM.qj (g+1) S0=P∧BH (g+1) S0∧L.sv.value.length=M.sv.value.length))
   case atStart=>exact⟨K0,N.sv,v0,rfl,H1.out,⟨yw.out,HV0.out,UK.out,Rl.out,HVK.out⟩⟩
   case round =>
    clear H1 yw HV0 UK Rl HVK Qv;obtain⟨L,S0,v,rfl,H2,HK⟩:=hrel;obtain⟨hk1,hk2,hk3,hk4,hk5⟩:=HK.out;rw[SM.qj,hk2] at hk3;rw[BH,hk2] at hk4;obtain⟨d1,d2,d3⟩:=hk4;rw[←hk1] at hk3 d2 d3;have HK1:=zH hk1;have Np:=zH hk3;have HK5:=zH hk5;have HD2:=zH d2;have HD3:=zH d3;clear hk1 hk2 hk3 hk5 d1 d2 d3 HK
    by_cases hv:v=0
    ·subst hv;have e2:decide ((0:Int)<((0:Nat):Int))=false:=by simp
     have hk3:=Np.out;rw[if_pos (by first | rfl | trivial)] at hk3
     have hgo:=FR.out;rw[←hk3] at hgo
     have hRR:R=(L.sv.y8 assume,false):=by
      rw[←hgo,if_neg (show ¬ (false=true) by decide)]
     have HRR:=zH hRR;obtain⟨N,hN⟩:∃ N,L.value.xs.length=N:=⟨_,rfl⟩;have hsm:N≤100000:=by rw[←hN];exact HD2.out.lk.small
     have HN:=zH hN;have c24:=H2.out.qm;have f24:=H2.out.fz 24;clear hk3 hgo hRR hN FR Np HD3
     go_upto_region 23 with fail
     have H3:=zH (H2.out.zk 1);clear c24 f24 H2;revert H3;generalize wr.setCell ⟨p,24,none⟩ (.int .i64 1)=w2;intro H3;have c7:=H3.out.kI;rw[show (L.uq 1).value.xs.length=N from HN.out] at c7;have Rm:=zH H3.out.st;have fP:=zH H3.out.bA
     go_upto_region 24 with (at_make;refine lX rfl _ _ 84 4 (.bool false) 1 rfl Tryz.underlying84 Tryz.qO rfl N _ rfl rfl rfl (by omega) (by unfold maxLen;omega) (by omega) Rm.out ?_;intro mb w3 h3;have h4:=At.Yb (M:=L.uq 1) h3 fP.out;have H4:=zH h4;have c21:=h4.zh;have f21:=h4.fz 21;clear h3 h4)
     have h5:=At.IV (M:=L.uq 1) (a:=some mb) (n:=N) (c:=N) (xs:=List.replicate N false) (by rw[List.map_replicate];exact H4.out) (by simp);have H5:=zH h5;clear h5 c21 f21 c7 H4 H3 Rm fP;revert H5;simp only[Option.map_some];generalize w3.setCell ⟨p,21,none⟩ (.slice (some ⟨mb,0,none⟩) N N)=w4;intro H5;obtain⟨T,hT⟩:∃ T,L.uq 1=T:=⟨_,rfl⟩;rw[hT] at H5;have hvt:T.value.xs.length=N:=by rw[←hT];exact HN.out
     have hot:T.occurs.xs.length=N:=by rw[←hT,←HN.out];exact HD2.out.lk.sz.occurs
     obtain⟨zs,hzs⟩:∃ zs,List.zipWith (fun x o=>decide ((0:Int)<x)&&o) T.value.xs T.occurs.xs=zs:=⟨_,rfl⟩;have hzl:zs.length=N:=by rw[←hzs,List.length_zipWith,hvt,hot];simp
     have ahM:L.sv.y8 assume={ MM.sv T with model:=assume.foldl (fun m a=>m.set (aJ a/2) (decide (0<a))) zs }:=by
      rw[←hzs,←hT];rfl
     have alU:=zH ahM;have HVT:=zH hvt;have HOT:=zH hot;have HZS:=zH hzs;have HZL:=zH hzl;have HMV:=zH (show M.sv.value.length=N by rw[←HK5.out];exact HN.out);clear ahM hvt hot hzs hzl hT HN HD2 HK5;have c7:=H5.kI;obtain⟨va,hva⟩:∃ va,(T.value.a.map fun b=>(⟨b,0,none⟩:Addr))=va:=⟨_,rfl⟩;rw[show (T.kH ⟨some mb,N,List.replicate N false⟩).value.xs.length=N from HVT.out,show ((T.kH ⟨some mb,N,List.replicate N false⟩).value.a.map fun b=>(⟨b,0,none⟩:Addr))=va from hva] at c7;have alV:=zH hva;have H6:=zH H5;clear hva H5
     go_wp2
     clear c7
     go_loopg [130] N (fun g alW wr=>∃ (k:Nat) (xs:List Bool),alW=.int .i64 k∧k≤N∧Hid (g=N-k)∧Hid (xs=zs.take k++List.replicate (N-k) false)∧Hid (At B w0 wr p (T.kH ⟨some mb,N,xs⟩) F))
     case atStart=>exact⟨0,List.replicate N false,rfl,Nat.zero_le _,rfl,zH (by simp),H6.out⟩
     case round =>
      clear H6;obtain⟨k,xs,rfl,hkn,hg,HX,H6⟩:=hrel;have hxl:xs.length=N:=by rw[HX.out,List.length_append,List.length_take,HZL.out,List.length_replicate];omega
      have tO:=zH hxl;clear hxl
      by_cases hkl:k<N
      ·have e3:decide ((k:Int)<(N:Int))=true:=by simp;omega
       obtain⟨bv,hbv⟩:=H6.out.zq (by show 0<T.value.xs.length;rw[HVT.out];omega);have UY:T.value.a=some bv:=hbv;obtain rfl:va=some ⟨bv,0,none⟩:=by rw[←alV.out,UY];rfl
       obtain⟨x,hx⟩:∃ x,gi T.value.xs k=x:=⟨_,rfl⟩;obtain⟨k1,_⟩:=H6.out.zu hbv (i:=k) (x:=x) (by rw[←hx];exact gT _ _ (by rw[HVT.out];exact hkl));simp only[v8] at k1;obtain⟨bo,hbo⟩:=H6.out.Ma (by show 0<T.occurs.xs.length;rw[HOT.out];omega);obtain⟨oc,hoc⟩:∃ x,gB T.occurs.xs k=x:=⟨_,rfl⟩;obtain⟨k2,_⟩:=H6.out.Mc hbo (i:=k) (x:=oc) (by rw[←hoc];exact jy _ _ (by rw[HOT.out];exact hkl));simp only[vB] at k2;have c11:=H6.out.D5;rw[hbo,show (T.kH ⟨some mb,N,xs⟩).occurs.xs.length=N from HOT.out] at c11;simp only[Option.map_some] at c11;have c21:=H6.out.zh;rw[show (T.kH ⟨some mb,N,xs⟩).model.xs.length=N from tO.out] at c21;have alX:wr.cell? ⟨p,21,none⟩=some (.slice (some ⟨mb,0,none⟩) N N):=c21;obtain⟨k3,f3⟩:=H6.out.Kw (b:=mb) rfl (i:=k) (x:=gB xs k) (jy _ _ (by rw[tO.out];exact hkl));simp only[vB] at k3;obtain⟨pb,hpb⟩:∃ b,decide ((0:Int)<x)=b:=⟨_,rfl⟩
       have hzk:gB zs k=(pb&&oc):=by
        rw[←HZS.out,←hpb,←hx,←hoc];have h1:k<(List.zipWith (fun x o=>decide ((0:Int)<x)&&o) T.value.xs T.occurs.xs).length:=by rw[HZS.out,HZL.out];exact hkl
        simp[gB,gi,List.getD_eq_getElem?_getD,List.getElem?_zipWith,List.getElem?_eq_getElem (show k<T.value.xs.length by rw[HVT.out];exact hkl),List.getElem?_eq_getElem (show k<T.occurs.xs.length by rw[HOT.out];exact hkl)]
       have Wm:=zH (YR (N:=N) HZL.out hkl hzk);have hset:=fun y=>(H6.out.IU (b:=mb) (i:=k) rfl (by show k<xs.length;rw[tO.out];exact hkl) y).drewN 1;have mV:=zH hset;have p0:(0:Int)≤(k:Int):=by omega
       have p1:(k:Int)<(N:Int):=by omega
       clear c21 hset hx hoc hbv UY hbo hzk
       go_upto_region 27 with fail
       cases pb with
       | true =>
        go_region
        go_wp2
        go_roundg (N-(k+1))
        case measure=>have:=hg.out;omega
        case rel=>exact⟨k+1,xs.set k oc,by go_num,by omega,rfl,zH (by have h9:=Wm.out;rw[Bool.true_and] at h9;rw[HX.out];exact h9),mV.out oc⟩
       | false =>
        go_region
        go_wp2
        go_roundg (N-(k+1))
        case measure=>have:=hg.out;omega
        case rel=>exact⟨k+1,xs.set k false,by go_num,by omega,rfl,zH (by have h9:=Wm.out;rw[Bool.false_and] at h9;rw[HX.out];exact h9),mV.out false⟩
      ·obtain rfl:k=N:=by omega
       have e3:decide ((k:Int)<(k:Int))=false:=by simp
       have hxz:xs=zs:=by rw[HX.out,List.take_of_length_le (by rw[HZL.out];exact Nat.le_refl _)];simp
       subst hxz;clear hg HX
       go_wp2
       go_loopg [155] na (fun g alY wr=>∃ (j:Nat) (ys:List Bool),alY=.int .i64 j∧j≤na∧Hid (g=na-j)∧Hid (ys.length=k)∧Hid (ys=(assume.take j).foldl (fun m a=>m.set (aJ a/2) (decide (0<a))) xs)∧Hid (At B w0 wr p (T.kH ⟨some mb,k,ys⟩) F))
       case atStart=>exact⟨0,xs,rfl,Nat.zero_le _,rfl,tO.out,zH (by simp),H6.out⟩
       case round =>
        clear H6;obtain⟨j,ys,rfl,hjn,hg,Ve,HY,H6⟩:=hrel
        by_cases hjl:j<na
        ·have e4:decide ((j:Int)<(na:Int))=true:=by simp;omega
         obtain⟨b,o,rfl,hc⟩:=(At.YD HST.out H6.out).cells (by omega);obtain⟨a,ha⟩:∃ a,gi assume j=a:=⟨_,rfl⟩;have k3:=hc j hjl;rw[ha] at k3;have hkx:j<assume.length:=by rw[TD.out];exact hjl
         have Qa:a∈assume:=by rw[←ha,dh _ _ hkx];exact List.getElem_mem hkx
         have hal:=Db.out a Qa;have hav:=HVA.out a Qa;rw[HMV.out] at hav;have Rl:=zH (fun V=>uK a V (by omega) (by omega));have qQ:=zH (fun V=>pQ (aJ a) V (by omega));obtain⟨q,hq⟩:∃ q,aJ a/2=q:=⟨_,rfl⟩;obtain⟨l,hl⟩:∃ l,aJ a=l:=⟨_,rfl⟩;obtain⟨pb,hpb⟩:∃ b,decide ((0:Int)<a)=b:=⟨_,rfl⟩
         have hfo:(assume.take (j+1)).foldl (fun m a=>m.set (aJ a/2) (decide (0<a))) xs=ys.set q pb:=by
          rw[List.take_succ_eq_append_getElem hkx,List.foldl_append,←HY.out,←dh _ _ hkx,ha];show ys.set (aJ a/2) (decide (0<a))=_;rw[hq,hpb]
         rw[hq] at qQ hav;rw[hl] at Rl qQ;have c21:=H6.out.zh;rw[show (T.kH ⟨some mb,k,ys⟩).model.xs.length=k from Ve.out] at c21;have alX:wr.cell? ⟨p,21,none⟩=some (.slice (some ⟨mb,0,none⟩) k k):=c21;obtain⟨k4,f4⟩:=H6.out.Kw (b:=mb) rfl (i:=q) (x:=gB ys q) (jy _ _ (by rw[Ve.out];exact hav));simp only[vB] at k4;have hset:=(H6.out.IU (b:=mb) (i:=q) rfl (by show q<ys.length;rw[Ve.out];exact hav) pb).drewN 1;have mV:=zH hset;have HFO:=zH hfo;have p0:(0:Int)≤(j:Int):=by omega
         have p1:(j:Int)<(na:Int):=by omega
         have q0:(0:Int)≤(q:Int):=by omega
         have q1:(q:Int)<(k:Int):=by omega
         clear c21 hset hfo hq hl ha hkx Qa hal hc
         go_upto_region 32 with fail
         go_still_tail 9,(by kernel_rfl)
         repeat still_step
         still_call ((Rl.out _).mono fun e w' h=>⟨h.1,h.2.symm⟩)
         repeat still_step
         still_call ((qQ.out _).mono fun e w' h=>⟨h.1,h.2.symm⟩)
         repeat still_step
         refine wpStill_nil ?_;change wpList _ _ _ _ _ wr.drew
         go_wp2
         go_roundg (na-(j+1))
         case measure=>have:=hg.out;omega
         case rel=>exact⟨j+1,ys.set q pb,by go_num,by omega,rfl,zH (by rw[List.length_set];exact Ve.out),HFO.out.symm,mV.out⟩
        ·obtain rfl:j=na:=by omega
         have e4:decide ((j:Int)<(j:Int))=false:=by simp
         have hyf:ys=assume.foldl (fun m a=>m.set (aJ a/2) (decide (0<a))) xs:=by rw[HY.out,List.take_of_length_le (by rw[TD.out];exact Nat.le_refl _)]
         have HYF:=zH hyf;clear hyf hg
         go_wp2
         go_ret
         exact⟨by rw[HRR.out];rfl,_,H6.out,by rw[HRR.out,alU.out,←HYF.out];rfl⟩
    ·have e2:decide ((0:Int)<(v:Int))=true:=by simp;omega
     obtain⟨hvl,hnx⟩:=HD3.out hv;have hk3:=Np.out;rw[if_neg hv] at hk3;obtain⟨x,hx⟩:∃ x,gi L.value.xs v=x:=⟨_,rfl⟩;obtain⟨N,hN⟩:∃ N,L.value.xs.length=N:=⟨_,rfl⟩;have Yd:v<N:=by rw[←hN];exact hvl
     obtain⟨bv,hbv⟩:=H2.out.zq (by omega);obtain⟨k1,_⟩:=H2.out.zu hbv (i:=v) (x:=x) (by rw[←hx];exact gT _ _ (by omega));simp only[v8] at k1;have c1:=H2.out.kI;rw[hbv,hN] at c1;simp only[Option.map_some] at c1;rw[show gi L.sv.value v=x from hx] at hk3 hnx;have v0':(0:Int)≤(v:Int):=by omega
     have v1':(v:Int)<(N:Int):=by omega
     have HK4:=zH hk3;have HNX:=zH hnx;have HN:=zH hN;have Qv:=zH Yd;clear hk3 hnx hx hbv hN hvl Yd
     by_cases hx0:x=0
     ·subst hx0;have e3:decide ((0:Int)=0)=true:=by simp
      have hk3:=HK4.out;rw[if_pos (by first | rfl | trivial)] at hk3
      obtain⟨Ti,hne2⟩:∃ n,L.ends.xs.length=n:=⟨_,rfl⟩;obtain⟨TI,aeF⟩:∃ n,L.trail.xs.length=n:=⟨_,rfl⟩;have tL:=zH hne2;have wJ:=zH aeF;have hneb:Ti≤900000:=by rw[←hne2];exact HD2.out.el
      have abF:TI≤900000:=by rw[←aeF];exact HD2.out.lk.trail
      have HK6:=zH hk3;have hsm:N≤100000:=by rw[←HN.out];exact HD2.out.lk.small
      clear hk3 hne2 aeF
      go_upto_region 16 with fail
      clear k1 c1;have cE:=H2.out.qo;have cT:=H2.out.jV;have tE:=H2.out.uG;rw[tL.out] at cE tE;rw[wJ.out] at cT;have HTE:=zH tE;have Jh:=zH H2.out.bA;clear tE;refine dn 14 (fun V:World=>V.cell? ⟨p,13,none⟩=some (.slice (L.ends.a.map fun b=>⟨b,0,none⟩) Ti L.ends.c)∧V.cell? ⟨p,12,none⟩=some (.slice (L.trail.a.map fun b=>⟨b,0,none⟩) TI L.trail.c)) (by kernel_rfl) ?_;have bB:(fun V:World=>V.cell? ⟨p,13,none⟩=some (.slice (L.ends.a.map fun b=>⟨b,0,none⟩) Ti L.ends.c)∧V.cell? ⟨p,12,none⟩=some (.slice (L.trail.a.map fun b=>⟨b,0,none⟩) TI L.trail.c)) wr.drew:=⟨cE,cT⟩;refine ay (i:=0) (v:=?v2_1) rfl (by kernel_rfl) (by kernel_rfl) (by kernel_rfl) (by kernel_rfl) (fun _ _ _ h=>h) rfl ?ahN bB ?_
      case ahN =>
       intro V aF
       try dsimp only at aF
       first | (obtain⟨aS,aT,cK⟩:=aF) | (obtain⟨aS,aT⟩:=aF) | skip
       go_simp
       try with_reducible rfl
      try simp only[Act.put,List.setIfInBounds_toArray,List.set_cons_zero,List.set_cons_succ]
      refine ay (i:=1) (v:=?v2_2) rfl (by kernel_rfl) (by kernel_rfl) (by kernel_rfl) (by kernel_rfl) (fun _ _ _ h=>h) rfl ?ahO bB ?_
      case ahO =>
       intro V aF
       try dsimp only at aF
       first | (obtain⟨aS,aT,cK⟩:=aF) | (obtain⟨aS,aT⟩:=aF) | skip
       go_simp
       try with_reducible rfl
      try simp only[Act.put,List.setIfInBounds_toArray,List.set_cons_zero,List.set_cons_succ]
      refine ay (i:=2) (v:=?v2_3) rfl (by kernel_rfl) (by kernel_rfl) (by kernel_rfl) (by kernel_rfl) (fun _ _ _ h=>h) rfl ?ahP bB ?_
      case ahP =>
       intro V aF
       try dsimp only at aF
       first | (obtain⟨aS,aT,cK⟩:=aF) | (obtain⟨aS,aT⟩:=aF) | skip
       go_simp
       try with_reducible rfl
      try simp only[Act.put,List.setIfInBounds_toArray,List.set_cons_zero,List.set_cons_succ]
      refine ay (i:=3) (v:=?v2_4) rfl (by kernel_rfl) (by kernel_rfl) (by kernel_rfl) (by kernel_rfl) (fun _ _ _ h=>h) rfl ?ahQ bB ?_
      case ahQ =>
       intro V aF
       try dsimp only at aF
       first | (obtain⟨aS,aT,cK⟩:=aF) | (obtain⟨aS,aT⟩:=aF) | skip
       go_simp
       try with_reducible rfl
      try simp only[Act.put,List.setIfInBounds_toArray,List.set_cons_zero,List.set_cons_succ]
      refine ay (i:=4) (v:=?v2_5) rfl (by kernel_rfl) (by kernel_rfl) (by kernel_rfl) (by kernel_rfl) (fun _ _ _ h=>h) rfl ?ahR bB ?_
      case ahR =>
       intro V aF
       try dsimp only at aF
       first | (obtain⟨aS,aT,cK⟩:=aF) | (obtain⟨aS,aT⟩:=aF) | skip
       go_simp
       try with_reducible rfl
      try simp only[Act.put,List.setIfInBounds_toArray,List.set_cons_zero,List.set_cons_succ]
      refine ay (i:=5) (v:=?v2_6) rfl (by kernel_rfl) (by kernel_rfl) (by kernel_rfl) (by kernel_rfl) (fun _ _ _ h=>h) rfl ?ahS bB ?_
      case ahS =>
       intro V aF
       try dsimp only at aF
       first | (obtain⟨aS,aT,cK⟩:=aF) | (obtain⟨aS,aT⟩:=aF) | skip
       go_simp
       try with_reducible rfl
      try simp only[Act.put,List.setIfInBounds_toArray,List.set_cons_zero,List.set_cons_succ]
      refine ay (i:=6) (v:=?v2_7) rfl (by kernel_rfl) (by kernel_rfl) (by kernel_rfl) (by kernel_rfl) (fun _ _ _ h=>h) rfl ?ahT bB ?_
      case ahT =>
       intro V aF
       try dsimp only at aF
       first | (obtain⟨aS,aT,cK⟩:=aF) | (obtain⟨aS,aT⟩:=aF) | skip
       go_simp
       try with_reducible rfl
      try simp only[Act.put,List.setIfInBounds_toArray,List.set_cons_zero,List.set_cons_succ]
      refine ay (i:=7) (v:=?v2_8) rfl (by kernel_rfl) (by kernel_rfl) (by kernel_rfl) (by kernel_rfl) (fun _ _ _ h=>h) rfl ?ahU bB ?_
      case ahU =>
       intro V aF
       try dsimp only at aF
       first | (obtain⟨aS,aT,cK⟩:=aF) | (obtain⟨aS,aT⟩:=aF) | skip
       go_simp
       try with_reducible rfl
      try simp only[Act.put,List.setIfInBounds_toArray,List.set_cons_zero,List.set_cons_succ]
      refine ay (i:=8) (v:=?v2_9) rfl (by kernel_rfl) (by kernel_rfl) (by kernel_rfl) (by kernel_rfl) (fun _ _ _ h=>h) rfl ?ahV bB ?_
      case ahV =>
       intro V aF
       try dsimp only at aF
       first | (obtain⟨aS,aT,cK⟩:=aF) | (obtain⟨aS,aT⟩:=aF) | skip
       go_simp
       try with_reducible rfl
      try simp only[Act.put,List.setIfInBounds_toArray,List.set_cons_zero,List.set_cons_succ]
      refine ay (i:=9) (v:=?v2_10) rfl (by kernel_rfl) (by kernel_rfl) (by kernel_rfl) (by kernel_rfl) (fun _ _ _ h=>h) rfl ?aeH bB ?_
      case aeH =>
       intro V aF
       try dsimp only at aF
       first | (obtain⟨aS,aT,cK⟩:=aF) | (obtain⟨aS,aT⟩:=aF) | skip
       go_simp
       try with_reducible rfl
      try simp only[Act.put,List.setIfInBounds_toArray,List.set_cons_zero,List.set_cons_succ]
      refine bf (i:=10) (by kernel_rfl) rfl (fun K hK=>?_)
      go_simp
      refine hK _ _ (⟨(World.cell?_alloc_some wr.drew _ (Obj.cells #[Value.int IntKind.i64 TI] 3) (by rw[bB.1];rfl)).trans bB.1,(World.cell?_alloc_some wr.drew _ (Obj.cells #[Value.int IntKind.i64 TI] 3) (by rw[bB.2];rfl)).trans bB.2⟩) ?_;clear hK K
      try simp only[Act.put,List.setIfInBounds_toArray,List.set_cons_zero,List.set_cons_succ]
      refine bf (i:=11) (by kernel_rfl) rfl (fun K hK=>?_);refine bN (by rfl) _ _ 27 3 (.int .i64 0) 8 (by rfl) Tryz.underlying27 Tryz.bW rfl (HTE.out.drew.alloc _) (by rfl) wr.heap.size (.int .i64 TI) (by rfl) (fJ wr.drew _ _) rfl (by omega) (by simp only[maxLen];omega) ?_;intro bE Nn wE hs _;obtain⟨⟨kE,fE⟩,kE2⟩:=At.Bj (M:=L) (x:=TI) Jh.out tL.out hs
      have cT2:wE.cell? ⟨p,12,none⟩=some (.slice (L.trail.a.map fun b=>⟨b,0,none⟩) TI L.trail.c):=by
       obtain⟨G,hG⟩:∃ G,star (sl (some bE) (Ti+1) Nn 3 1 (L.ends.xs.map vN++[vN TI])) (star (stars ((parts p L).eraseIdx 7)) F)=star (pt p 92 (aI L)) G:=by
        rw[show stars ((parts p L).eraseIdx 7)=star (pt p 92 (aI L)) (stars (((parts p L).eraseIdx 7).eraseIdx 0)) from aZ rfl];exact⟨star (sl (some bE) (Ti+1) Nn 3 1 (L.ends.xs.map vN++[vN TI])) (star (stars (((parts p L).eraseIdx 7).eraseIdx 0)) F),by ac_rfl⟩
       have h9:=(hs.aB hG).aG 12;rw[←wJ.out];exact h9
      have HS2:(fun V:World=>V.cell? ⟨p,13,none⟩=some (.slice (L.ends.a.map fun b=>⟨b,0,none⟩) Ti L.ends.c)∧V.cell? ⟨p,12,none⟩=some (.slice (L.trail.a.map fun b=>⟨b,0,none⟩) TI L.trail.c)) wE:=⟨kE,cT2⟩;have HE9:=zH kE2;clear hs kE2;refine hK _ _ HS2 ?_;clear hK K
      try simp only[Act.put,List.setIfInBounds_toArray,List.set_cons_zero,List.set_cons_succ]
      refine bf (i:=12) (by kernel_rfl) rfl (fun K hK=>?_)
      go_simp
      refine hK _ _ (HS2) ?_;clear hK K
      try simp only[Act.put,List.setIfInBounds_toArray,List.set_cons_zero,List.set_cons_succ]
      refine bf (i:=13) (by kernel_rfl) rfl (fun K hK=>?_)
      go_simp
      refine hK _ _ (HS2) ?_;clear hK K
      try simp only[Act.put,List.setIfInBounds_toArray,List.set_cons_zero,List.set_cons_succ]
      refine iy (by kernel_rfl) rfl (by kernel_rfl) (fun K hK=>?_)
      go_simp
      refine hK _ _ ?_;clear hK K;clear bB HS2 cE cT kE fE cT2 HTE Jh;have hso:MM.sv (L.uo ⟨some bE,Nn,L.ends.xs++[TI]⟩)=(MM.sv L).open_:=by unfold SM.open_;rw[show (MM.sv L).trail.length=TI from wJ.out];rfl
      obtain⟨ME,YS⟩:∃ ME,L.uo ⟨some bE,Nn,L.ends.xs++[TI]⟩=ME:=⟨_,rfl⟩;have hvE:ME.value=L.value∧ME.level=L.level∧ME.reason=L.reason∧ME.trail=L.trail∧ME.phase=L.phase:=by rw[←YS];exact⟨rfl,rfl,rfl,rfl,rfl⟩
      have KW:=zH hvE;rw[YS] at hso HE9;have Ai:=zH hso;clear hso YS hvE;revert HE9;generalize wE.setCell ⟨p,13,none⟩ (.slice (some ⟨bE,0,none⟩) (Ti+1) Nn)=w5;intro H5;obtain⟨ph,hph⟩:∃ b,gB L.phase.xs v=b:=⟨_,rfl⟩;have hpl:L.phase.xs.length=N:=by rw[←HN.out];exact HD2.out.lk.sz.phase
      obtain⟨bp,hbp⟩:=H5.SQ (by rw[KW.out.2.2.2.2];omega);obtain⟨k4,_⟩:=H5.SS hbp (i:=v) (x:=ph) (by rw[KW.out.2.2.2.2,←hph];exact jy _ _ (by rw[hpl];exact Qv.out));simp only[vB] at k4;have c10:=H5.Kq;rw[hbp,KW.out.2.2.2.2,hpl] at c10;simp only[Option.map_some] at c10;have HPH:=zH hph;have mV:=zH (fun l (hl:l/2=v)=>vP (M:=ME) l (-1) H5 (by rw[KW.out.1,hl,HN.out];exact Qv.out) (by rw[KW.out.1,KW.out.2.1];exact HD2.out.lk.sz.level) (by rw[KW.out.1,KW.out.2.2.1];exact HD2.out.lk.sz.reason) (by rw[KW.out.1];exact HD2.out.lk.small) (by rw[KW.out.2.2.2.1,wJ.out];omega));have hbo:=Fp v (by omega);clear hph hpl hbp
      cases ph with
      | true =>
       go_wp2_with fail
       rw[show (v:Int)*2=((2*v:Nat):Int) by omega];refine (mV.out (2*v) (by omega)).mono ?_
       rintro e w6 ⟨rfl,z1,z2,z3,z4,h6,h7⟩
       have hPP:P=((MM.sv ME).bX (2*v) (-1),true):=by rw[←HK6.out,show gB L.sv.phase v=true from HPH.out,Ai.out];rfl
       have hgo:=FR.out;rw[hPP] at hgo;have H6:=zH h6;have zO:=zH h7;have ku:=zH (show R=((MM.sv ME).bX (2*v) (-1),true) from hgo.symm);clear h6 h7 hPP hgo mV
       go_wp2
       go_ret
       exact⟨by rw[ku.out];rfl,_,H6.out,by rw[ku.out];exact zO.out⟩
      | false =>
       go_wp2_with fail
       rw[show (v:Int)*2=((2*v:Nat):Int) by omega,Fp v (by omega)];refine (mV.out (2*v+1) (by omega)).mono ?_
       rintro e w6 ⟨rfl,z1,z2,z3,z4,h6,h7⟩
       have hPP:P=((MM.sv ME).bX (2*v+1) (-1),true):=by rw[←HK6.out,show gB L.sv.phase v=false from HPH.out,Ai.out];rfl
       have hgo:=FR.out;rw[hPP] at hgo;have H6:=zH h6;have zO:=zH h7;have ku:=zH (show R=((MM.sv ME).bX (2*v+1) (-1),true) from hgo.symm);clear h6 h7 hPP hgo mV
       go_wp2
       go_ret
       exact⟨by rw[ku.out];rfl,_,H6.out,by rw[ku.out];exact zO.out⟩
     ·have e3:decide (x=0)=false:=by simpa using hx0
      have hk3:=HK4.out;rw[if_neg hx0] at hk3;have hpo:=HNX.out hx0
      obtain⟨g,rfl⟩:∃ g,gk=g+1:=by
       cases gk with
       | zero=>exact hpo.elim
       | succ g=>exact⟨g,rfl⟩
      have qH:=zH (Mr H2.out HD2.out.hb);obtain⟨v2,hv2⟩:∃ v2,L.sv.take.2=v2:=⟨_,rfl⟩;rw[hv2] at qH;have Qp:=zH hv2;have HPO:=zH hpo;have HK6:=zH hk3;clear hk3 hpo hv2
      go_wp2_with fail
      refine qH.out.mono ?_
      rintro e w2 ⟨rfl,y1,y2,y3,h3,h4⟩
      obtain⟨K2,hK2⟩:∃ K2,L.aP y1 y2 y3=K2:=⟨_,rfl⟩;rw[hK2] at h3 h4;have hvk:K2.sv.value.length=M.sv.value.length:=by rw[←hK2];exact HK5.out
      have H3:=zH h3;have Hy:=zH h4;have HVK:=zH hvk;clear h3 h4 hK2 hvk qH
      go_wp2
      go_roundg g
      case measure=>omega
      case rel=>exact⟨K2,L.sv,v2,rfl,H3.out,⟨Hy.out,Qp.out,HK6.out,HPO.out,HVK.out⟩⟩
end
end Go.Proofs.YthbbmdnfkkffjaaGreat
