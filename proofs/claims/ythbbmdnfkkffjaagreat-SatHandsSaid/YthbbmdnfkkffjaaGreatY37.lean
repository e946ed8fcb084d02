/-
  Parts of the proof, joined by program: Ned, Help2, Help3, Byte1.
-/
import Derived.Test.YthbbmdnfkkffjaaGreatY36
import Derived.Test.YthbbmdnfkkffjaaGreatY35
import Derived.Test.YthbbmdnfkkffjaaGreatY01
import Derived.Laws.BitsLemmas
import Derived.Lib.Hide
set_option maxHeartbeats 8000000
set_option maxRecDepth 100000
namespace Go.Proofs.YthbbmdnfkkffjaaGreat
open Go.RowKit Go.Proofs.aC Go.Proofs.aA
open Go.Proofs.au hiding SM
section
variable {B:Nat} {w0 w:World} {p:Nat} {M:MM} {F:HP}
theorem At.ae3 {f:Fl (Fl Int)} {j:Nat} (h:At B w0 w p M F) (hj:(parts p M)[j]?=some (stars (f.rows 3 vI))) {i:Nat} {r:Fl Int} (hi:f.xs[i]?=some r) (hs:r.xs.length≤140737488355328):Rd w (r.a.map fun b=>⟨b,0,none⟩) r.xs.length r.xs:=by
 have h1:=h.st.aX hj;have hr:(f.rows 3 vI)[i]?=some (bO 3 r.a r.c r.xs):=by unfold Fl.rows;rw[List.getElem?_map,hi];rfl
 exact St.rd (h1.aB (by rw[aZ hr,gJ])) hs
theorem At.VK {f:Fl (Fl Int)} {j:Nat} (h:M.last.xs=[]→M.last.a=none) (hj:(parts p M)[j]?=some (stars (f.rows 3 vI))) {i:Nat} {r:Fl Int} (hi:f.xs[i]?=some r) (hs:r.xs.length≤140737488355328):fM B w0 (star (stars (parts p M)) F) (r.a.map fun b=>⟨b,0,none⟩) r.xs.length r.xs:=fun w P k =>
 At.ae3 (F:=star P F) ⟨k.aB (by ac_rfl),h⟩ hj hi hs
structure ae4 (S:SM) (last:List Int):Prop where
 steps:S.steps.length≤1000000
 rows:∀ x∈S.steps,x.length≤1000000∧sU S.steps.length x
 last:last.length≤1000000∧sU S.steps.length last
theorem RU (A:Option Addr) (nl c n:Nat) (last:List Int) (h:At B w0 w p M F) (hs:fM B w0 F A nl last) (hok:ae4 M.sv last) (hn:n≤10000000) :
  Calls Tryz.prog 75 #[.pointer (some ⟨p,0,none⟩),.slice A nl c,.int .i64 n] w fun e w'=>∃ (a:Option Nat) (c' ol:Nat) (W:vk),e=.returned (.slice (a.map fun b=>⟨b,0,none⟩) ol c')∧W.length=ol∧At B w0 w' p M (star (bR 106 a c' W) F)∧W.map (fun x=>x.2.2)=nk M.sv.steps last n:=by
 obtain⟨m,hm⟩:∃ m,M.steps.xs.length=m:=⟨_,rfl⟩;have hsl:M.sv.steps.length=m:=by show (M.steps.xs.map _).length=m;rw[List.length_map];exact hm
 have hmb:m≤1000000:=by rw[←hsl];exact hok.steps
 have hlr:last.length=nl:=(At.YD hs h).len;have hlb:nl≤1000000:=by rw[←hlr];exact hok.last.1
 have hrow:∀ (i:Nat) (r:Fl Int),M.steps.xs[i]?=some r→r.xs.length≤1000000∧sU m r.xs∧gl M.sv.steps i=r.xs:=fun i r hi=>by
  have hi2:M.sv.steps[i]?=some r.xs:=by show (M.steps.xs.map _)[i]?=_;rw[List.getElem?_map,hi];rfl
  have hmem:r.xs∈M.sv.steps:=List.mem_of_getElem? hi2;have h1:=hok.rows _ hmem;rw[hsl] at h1;exact⟨h1.1,h1.2,by unfold gl;rw[List.getD_eq_getElem?_getD,hi2];rfl⟩
 have hla:sU m last:=by rw[←hsl];exact hok.last.2
 have c1:=h.zi;rw[hm] at c1;obtain⟨X,hX⟩:∃ X,star (stars (parts p M)) F=X:=⟨_,rfl⟩;have hst:fM B w0 X A nl last:=fun w P k=>hs w (star P (stars (parts p M))) (k.aB (by rw[←hX];ac_rfl));have hrs:∀ (i:Nat) (r:Fl Int),M.steps.xs[i]?=some r→fM B w0 X (r.a.map fun b=>⟨b,0,none⟩) r.xs.length r.xs:=fun i r hi=>by rw[←hX];exact At.VK (j:=24) h.bA rfl hi (by have:=(hrow i r hi).1;omega)
 have hF0:∀ (w1:World) (P:HP),St B w0 w1 (star P X)→At B w0 w1 p M (star P F):=fun w1 P k=>⟨k.aB (by rw[←hX];ac_rfl),h.bA⟩;have h0:St B w0 w X:=by rw[←hX];exact h.st
 have HM:=zH hm;have HST:=zH hst;have HRS:=zH hrs;have Dc:=zH hrow;have U4:=zH hla;have HAT:=zH hF0;have HSL:=zH hsl;obtain⟨G,hG⟩:∃ G,nGo M.sv.steps m (p8 (List.replicate m false) last)=G:=⟨_,rfl⟩;have hnf:nk M.sv.steps last n=(NR M.sv.steps G n m 0 (List.replicate m 0) []).2++[kS (NR M.sv.steps G n m 0 (List.replicate m 0) []).1 last]:=by unfold nk;rw[hsl,hG]
 have HNF:=zH hnf;have HG:=zH hG;have H0:=zH h0;clear h hm hst hrs hrow hla hF0 hsl hG hnf hs hok hlr hX h0
 go_enter Tryz.func75,Tryz.ntmps75
 go_wp2_with (first
  | (refine lX rfl _ _ 84 4 (.bool false) 1 rfl Tryz.underlying84 Tryz.qO rfl m _ rfl rfl rfl (by omega) (by unfold maxLen;omega) (by omega) H0.out ?_;intro nb w2 h2;have H2:=zH h2;have H3:=zH (h2.iC #[.slice none 0 0] 84);clear h2)
  | (refine gU rfl 84 _ _ rfl Tryz.RQ H3.out 0 (.slice (some ⟨nb,0,none⟩) m m) rfl rfl rfl (Nat.zero_lt_one) ?_;intro w3 h3;have H4:=zH h3;clear h3))
 clear H2 H3 c1;have h5:=H4.out.aB (show _=star (pt w2.heap.size 84 [.slice (some ⟨nb,0,none⟩) m m]) (star (sl (some nb) m m 4 1 ((List.replicate m false).map vB)) X) by simp only[List.set_cons_zero,List.map_replicate];rfl);clear H4;revert h5;generalize w2.heap.size=bn;intro h5;refine (NS A nl c bn nb m last (List.replicate m false) h5 HST.out (by simp) (by omega) U4.out).mono ?_
 rintro e w4 ⟨rfl,h6⟩
 clear h5;have d1:=h6.aG 0;simp only[List.getElem?_cons_zero] at d1;have H6:=zH h6;have HNM:=zH (show (p8 (List.replicate m false) last).length=m by rw[BR];simp);clear h6
 go_wp2
 clear d1
 go_loopg [9] m (fun g s9 wr=>∃ (z:Int) (k:Nat) (N:List Bool),s9=.int .i64 z∧z=(k:Int)-1∧k≤m∧Hid (g=k)∧Hid (N.length=m)∧Hid (St B w0 wr (star (pt bn 84 [.slice (some ⟨nb,0,none⟩) m m]) (star (sl (some nb) m m 4 1 (N.map vB)) X)))∧Hid (nGo M.sv.steps k N=G))
 case atStart=>exact⟨_,m,p8 (List.replicate m false) last,by go_num,rfl,Nat.le_refl _,rfl,HNM.out,H6.out,HG.out⟩
 case round =>
  clear H6 HG HNM;obtain⟨z,k,N,rfl,hz,hkm,hg,HN,H1,HE⟩:=hrel;have d1:=H1.out.aG 0;simp only[List.getElem?_cons_zero] at d1
  cases k with
  | zero =>
   obtain rfl:z=-1:=by omega
   have e2:decide ((0:Int)≤-1)=false:=by simp
   have hGN:N=G:=HE.out;subst hGN;clear HE hz hkm
   go_upto_region 12 with (first
    | (refine lX rfl _ _ 27 3 (.int .i64 0) 8 rfl Tryz.underlying27 Tryz.bW rfl m _ rfl rfl rfl (by omega) (by unfold maxLen;omega) (by omega) H1.out ?_;intro ob w5 h2;have H2:=zH h2;have H3:=zH (h2.iC #[.slice none 0 0] 27);clear h2)
    | (refine gU rfl 27 _ _ rfl Tryz.VH H3.out 0 (.slice (some ⟨ob,0,none⟩) m m) rfl rfl rfl (Nat.zero_lt_one) ?_;intro w6 h3;have H4:=zH h3;have H5:=zH (h3.iC #[.slice none 0 0] 73);clear h3))
   have h6:=H5.out;clear H2 H3 H4 H5 d1 H1;revert h6;generalize w6.heap.size=bu;generalize w5.heap.size=bo;generalize w6.alloc (Obj.cells #[.slice none 0 0] 73)=w7;intro h6;obtain⟨X2,hX2⟩:∃ P,star (star (pt bn 84 [.slice (some ⟨nb,0,none⟩) m m]) (sl (some nb) m m 4 1 (N.map vB))) X=P:=⟨_,rfl⟩
   have h7:St B w0 w7 (jU none 0 0 [] bu bo ob m (List.replicate m 0) X2):=h6.aB (by
    unfold jU;rw[nI,iA,←hX2];simp only[List.set_cons_zero,ints,List.map_replicate]
    ac_rfl)
   have HX:=zH hX2;have H7:=zH h7;have Ir:fM B w0 X2 A nl last:=by rw[←hX2];exact fM.more HST.out _
   have lU:=zH Ir;obtain⟨RF,hRF⟩:∃ R,NR M.sv.steps N n m 0 (List.replicate m 0) []=R:=⟨_,rfl⟩;have hnf:=HNF.out;rw[hRF] at hnf;have ams:=zH hnf;have YE:=zH hRF;have hcs:=(HAT.out w7 _ (h7.aB (show _=star (star (jU none 0 0 [] bu bo ob m (List.replicate m 0) emp) (star (pt bn 84 [.slice (some ⟨nb,0,none⟩) m m]) (sl (some nb) m m 4 1 (N.map vB)))) X by unfold jU;rw[←hX2,aQ];ac_rfl))).zi;rw[HM.out] at hcs;obtain⟨SA,hSA⟩:∃ A,(M.steps.a.map fun b=>(⟨b,0,none⟩:Addr))=A:=⟨_,rfl⟩;rw[hSA] at hcs
   try rw[hSA]
   have HSA:=zH hSA;clear h6 h7 hX2 Ir hRF hnf HNF hSA
   go_wp2
   clear hcs
   go_loopg [57] m (fun g s57 wr=>∃ (i ol:Nat) (oa:Option Nat) (oc:Nat) (W:vk) (now:List Int),s57=.int .i64 i∧i≤m∧ol≤i∧Hid (g=m-i)∧Hid (W.length=ol)∧Hid (now.length=m)∧Hid (St B w0 wr (jU oa oc ol W bu bo ob m now X2))∧Hid (NR M.sv.steps N n (m-i) i now (W.map fun x=>x.2.2)=RF))
   case atStart=>exact⟨0,0,none,0,[],List.replicate m 0,rfl,Nat.zero_le _,Nat.le_refl _,rfl,rfl,zH (by simp),H7.out,YE.out⟩
   case round =>
    clear H7 YE;obtain⟨i,ol,oa,oc,W,now,rfl,him,hol,hg2,jK,AZ,H8,HE⟩:=hrel;have hp:St B w0 wr (star (pt bu 73 [.slice (oa.map fun b=>⟨b,0,none⟩) ol oc]) (star (pt bo 27 [.slice (some ⟨ob,0,none⟩) m m]) (star (bR 106 oa oc W) (star (sl (some ob) m m 3 1 (ints now)) X2)))):=H8.out.aB (by unfold jU;ac_rfl);have d3:=hp.aG 0;have d4:=(hp.aB (show _=star (pt bo 27 [.slice (some ⟨ob,0,none⟩) m m]) (star (pt bu 73 [.slice (oa.map fun b=>⟨b,0,none⟩) ol oc]) (star (bR 106 oa oc W) (star (sl (some ob) m m 3 1 (ints now)) X2))) by ac_rfl)).aG 0;simp only[List.getElem?_cons_zero] at d3 d4;have hpn:St B w0 wr (star (pt bn 84 [.slice (some ⟨nb,0,none⟩) m m]) (star (sl (some nb) m m 4 1 (N.map vB)) (star (jU oa oc ol W bu bo ob m now emp) X))):=H8.out.aB (by unfold jU;rw[←HX.out,aQ];ac_rfl);have d5:=hpn.aG 0;simp only[List.getElem?_cons_zero] at d5
    by_cases hil:i<m
    ·have e3:decide ((i:Int)<(m:Int))=true:=by simp;omega
     obtain⟨r,hr⟩:∃ r,M.steps.xs[i]?=some r:=⟨M.steps.xs[i]'(by rw[HM.out];exact hil),by rw[List.getElem?_eq_getElem (by rw[HM.out];exact hil)]⟩;obtain⟨r1,r2,r3⟩:=Dc.out i r hr;have hE:=HE.out;rw[show m-i=(m-(i+1))+1 by omega,NR,r3] at hE;have hat:=HAT.out wr _ (hpn.aB (show _=star (star (pt bn 84 [.slice (some ⟨nb,0,none⟩) m m]) (star (sl (some nb) m m 4 1 (N.map vB)) (jU oa oc ol W bu bo ob m now emp))) X by ac_rfl));obtain⟨sb,hsb⟩:=hat.Td (by rw[HM.out];omega);have ae5:=HSA.out;rw[hsb] at ae5;obtain rfl:SA=some ⟨sb,0,none⟩:=ae5.symm;obtain⟨c2,_⟩:=hat.Tf hsb hr;obtain⟨g,hgb⟩:∃ g,gB N i=g:=⟨_,rfl⟩;rw[hgb] at hE
     have d2:wr.cell? ⟨nb,i,none⟩=some (.bool g):=by
      have h2:=hpn.aB (show _=star (sl (some nb) m m 4 1 (N.map vB)) (star (pt bn 84 [.slice (some ⟨nb,0,none⟩) m m]) (star (jU oa oc ol W bu bo ob m now emp) X)) by ac_rfl);rw[h2.aW i (by rw[List.length_map,HN.out];exact hil),List.getElem?_map,jy N i (by rw[HN.out];exact hil),hgb];rfl
     have p0:(0:Int)≤(i:Int):=by omega
     have p1:(i:Int)<(m:Int):=by omega
     obtain⟨rl,hrl⟩:∃ n,r.xs.length=n:=⟨_,rfl⟩;have hsr:fM B w0 X2 (r.a.map fun b=>⟨b,0,none⟩) r.xs.length r.xs:=by rw[←HX.out];exact fM.more (HRS.out i r hr) _
     rw[hrl] at c2 hsr r1;have HSR:=zH hsr;have HR2:=zH r2;have amu:i<(ints now).length:=by rw[Ay,AZ.out];exact hil
     have HO:=zH (hp.aB (show _=star (sl (some ob) m m 3 1 (ints now)) (star (pt bu 73 [.slice (oa.map fun b=>⟨b,0,none⟩) ol oc]) (star (pt bo 27 [.slice (some ⟨ob,0,none⟩) m m]) (star (bR 106 oa oc W) X2))) by ac_rfl));obtain⟨OA,hOA⟩:∃ A,(oa.map fun b=>(⟨b,0,none⟩:Addr))=A:=⟨_,rfl⟩;rw[hOA] at d3;have HOA:=zH hOA;obtain⟨RA,hRA⟩:∃ A,(r.a.map fun b=>(⟨b,0,none⟩:Addr))=A:=⟨_,rfl⟩;rw[hRA] at c2;have KJ:=zH hRA;have HE2:=zH hE;clear hE HE hat hr r2 r3 hsb hgb hrl hsr hp hpn hOA hRA ae5
     cases g with
     | true =>
      go_upto_region 17 with (refine mF rfl 3 _ _ rfl Tryz.NT HO.out i (.int .i64 ((n:Int)+ol)) rfl rfl rfl amu ?_;intro w8 h9;have H9:=zH h9;clear h9)
      have h10:St B w0 w8 (jU oa oc ol W bu bo ob m (now.set i ((n:Int)+ol)) X2):=H9.out.aB (by unfold jU;rw[isN];ac_rfl);have Yj:=HE2.out;rw[if_pos rfl,List.length_map,jK.out] at Yj;have HE3:=zH Yj;have DJ:=zH h10;clear Yj HE2 h10 H9 HO d3 d4 d5 d2 c2
      try rw[←KJ.out]
      go_wp2_with fail
      refine (NV _ rl r.c bu bo ob m ol r.xs (now.set i ((n:Int)+ol)) oa oc W DJ.out HSR.out (by rw[List.length_set];exact AZ.out) (by omega) r1 jK.out (by omega) HR2.out).mono ?_
      rintro e w9 ⟨rfl,oa',oc',ka,kc,h9⟩
      have H11:=zH h9;clear h9
      go_wp2
      go_roundg (m-(i+1))
      case measure=>have:=hg2.out;omega
      case rel=>exact⟨i+1,ol+1,oa',oc',W++[(ka,kc,kS (now.set i ((n:Int)+ol)) r.xs)],now.set i ((n:Int)+ol),by go_num,by omega,by omega,rfl,zH (by rw[List.length_append,jK.out];rfl),zH (by rw[List.length_set];exact AZ.out),H11.out,zH (by rw[List.map_append];exact HE3.out)⟩
     | false =>
      go_wp2
      go_roundg (m-(i+1))
      case measure=>have:=hg2.out;omega
      case rel=>exact⟨i+1,ol,oa,oc,W,now,by go_num,by omega,by omega,rfl,jK,AZ,H8,HE2.out⟩
    ·obtain rfl:i=m:=by omega
     have e3:decide ((i:Int)<(i:Int))=false:=by simp
     have hE:=HE.out;rw[Nat.sub_self] at hE;have hE2:RF=(now,W.map fun x=>x.2.2):=hE.symm;have HE2:=zH hE2;clear hE hE2 HE hp hpn d3 d4 d5
     go_wp2_with fail
     refine (NV A nl c bu bo ob i ol last now oa oc W H8.out lU.out AZ.out (by omega) (by omega) jK.out (by omega) U4.out).mono ?_
     rintro e w9 ⟨rfl,oa',oc',ka,kc,h9⟩
     have hp2:St B w0 w9 (star (pt bu 73 [.slice (oa'.map fun b=>⟨b,0,none⟩) (ol+1) oc']) (star (pt bo 27 [.slice (some ⟨ob,0,none⟩) i i]) (star (bR 106 oa' oc' (W++[(ka,kc,kS now last)])) (star (sl (some ob) i i 3 1 (ints now)) X2)))):=h9.aB (by unfold jU;ac_rfl);have d6:=hp2.aG 0;simp only[List.getElem?_cons_zero] at d6;have hfin:=HAT.out w9 _ ((hp2.aB (show _=star (star (bR 106 oa' oc' (W++[(ka,kc,kS now last)])) X) (star (star (pt bu 73 [.slice (oa'.map fun b=>⟨b,0,none⟩) (ol+1) oc']) (pt bo 27 [.slice (some ⟨ob,0,none⟩) i i])) (star (sl (some ob) i i 3 1 (ints now)) (star (pt bn 84 [.slice (some ⟨nb,0,none⟩) i i]) (sl (some nb) i i 4 1 (N.map vB))))) by rw[←HX.out];ac_rfl)).drop);have qA:=zH hfin;obtain⟨OA,hOA⟩:∃ A,(oa'.map fun b=>(⟨b,0,none⟩:Addr))=A:=⟨_,rfl⟩;rw[hOA] at d6;have HOA:=zH hOA;clear h9 hp2 hfin hOA
     go_wp2
     go_ret
     exact⟨oa',oc',ol+1,W++[(ka,kc,kS now last)],by rw[HOA.out];rfl,by rw[List.length_append,jK.out];rfl,qA.out,by rw[ams.out,HE2.out,List.map_append];rfl⟩
  | succ k =>
   obtain rfl:z=(k:Int):=by omega
   have e2:decide ((0:Int)≤(k:Int))=true:=by simp
   have hkl:k<m:=by omega
   obtain⟨r,hr⟩:∃ r,M.steps.xs[k]?=some r:=⟨M.steps.xs[k]'(by rw[HM.out];exact hkl),by rw[List.getElem?_eq_getElem (by rw[HM.out];exact hkl)]⟩;obtain⟨r1,r2,r3⟩:=Dc.out k r hr;have hE:=HE.out;rw[nGo,r3] at hE;have hat:=HAT.out wr _ (H1.out.aB (show _=star (star (pt bn 84 [.slice (some ⟨nb,0,none⟩) m m]) (sl (some nb) m m 4 1 (N.map vB))) X by ac_rfl));obtain⟨sb,hsb⟩:=hat.Td (by rw[HM.out];omega);have c1:=hat.zi;rw[HM.out,hsb] at c1;obtain⟨c2,_⟩:=hat.Tf hsb hr;obtain⟨g,hgb⟩:∃ g,gB N k=g:=⟨_,rfl⟩;rw[hgb] at hE
   have d2:wr.cell? ⟨nb,k,none⟩=some (.bool g):=by
    have h2:=H1.out.aB (show _=star (sl (some nb) m m 4 1 (N.map vB)) (star (pt bn 84 [.slice (some ⟨nb,0,none⟩) m m]) X) by ac_rfl);rw[h2.aW k (by rw[List.length_map,HN.out];exact hkl),List.getElem?_map,jy N k (by rw[HN.out];exact hkl),hgb];rfl
   have p0:(0:Int)≤(k:Int):=by omega
   have p1:(k:Int)<(m:Int):=by omega
   obtain⟨rl,hrl⟩:∃ n,r.xs.length=n:=⟨_,rfl⟩;have hsr:=HRS.out k r hr;rw[hrl] at c2 hsr;have HSR:=zH hsr;have HE2:=zH hE;have HR2:=zH r2;clear hE HE hat hr r1 r2 r3 hsb hgb hrl hsr hkm hz
   cases g with
   | true =>
    go_wp2_with fail
    refine (NS _ rl r.c bn nb m r.xs N H1.out HSR.out HN.out (by omega) HR2.out).mono ?_
    rintro e w5 ⟨rfl,h2⟩
    have H2:=zH h2;clear h2
    go_wp2
    go_roundg k
    case measure=>have:=hg.out;omega
    case rel=>exact⟨_,k,p8 N r.xs,by go_num,rfl,by omega,rfl,zH (by rw[BR];exact HN.out),H2.out,HE2.out⟩
   | false =>
    go_wp2
    go_roundg k
    case measure=>have:=hg.out;omega
    case rel=>exact⟨_,k,N,by go_num,rfl,by omega,rfl,HN,H1.out,HE2.out⟩
end
end Go.Proofs.YthbbmdnfkkffjaaGreat
namespace Go.Proofs.YthbbmdnfkkffjaaGreat
open Go.RowKit Go.Proofs.aC Go.Proofs.au
theorem pK.drawn {w w':World} {A:Option Addr} {n:Nat} {xs:List Int} (h:pK w A n xs) (d:bJ w w'):pK w' A n xs:=h.heap d.heap
def eqL (xss RV:List (List Int)):Bool:=decide (xss=RV)
theorem T9 {xss RV:List (List Int)}:eqL xss RV=true↔xss=RV:=by unfold eqL;simp
theorem Zr {xss RV:List (List Int)} (h:xss≠RV):eqL xss RV=false:=by unfold eqL;simpa using h
theorem VL (A A':Option Addr) (n cap m cap':Nat) (xss RV:List (List Int)) (w:World) (hr:um w A n xss) (hr':um w A' m RV) :
  Calls Tryz.prog 36 #[.slice A n cap,.slice A' m cap'] w fun e w'=>e=.returned (.bool (eqL xss RV))∧bJ w w':=by
 have hs:=hr.small;have hs':=hr'.small;have HR:=zH hr;have HR':=zH hr'
 by_cases hnm:n=m
 ·subst hnm;clear hr hr'
  go_enter Tryz.func36,Tryz.ntmps36
  go_wp2
  go_loopw [5] (fun i wr=>∃ k:Nat,k≤n∧i=.int .i64 k∧Hid (xss.take k=RV.take k)∧bJ w wr) (fun i _=>n-(intOf i).toNat)
  case atStart=>exact⟨0,Nat.zero_le _,rfl,(rfl:xss.take 0=RV.take 0),bJ.refl w⟩
  case round =>
   obtain⟨k,hk,rfl,HX,hD⟩:=hrel
   by_cases hlt:k<n
   ·obtain⟨b,o,rfl,hc⟩:=(HR.out.heap hD.heap).cells (by omega);obtain⟨b',o',rfl,hc'⟩:=(HR'.out.heap hD.heap).cells (by omega);obtain⟨Aj,cj,hck,kC⟩:=hc k hlt;obtain⟨Aj',cj',aie,ae8⟩:=hc' k hlt;have h0:(0:Int)≤(k:Int):=by omega
    have h1:(k:Int)<(n:Int):=by omega
    obtain⟨x,hx⟩:∃ x,gl xss k=x:=⟨_,rfl⟩;obtain⟨y,hy⟩:∃ y,gl RV k=y:=⟨_,rfl⟩;obtain⟨ln,hln⟩:∃ ln,x.length=ln:=⟨_,rfl⟩;obtain⟨ln',aiu⟩:∃ ln',y.length=ln':=⟨_,rfl⟩;rw[hx,hln] at hck kC;rw[hy,aiu] at aie ae8;have hcall:∀ V,bJ wr V→Calls Tryz.prog 30 #[.slice Aj ln cj,.slice Aj' ln' cj'] V fun e w'=>e=.returned (.bool (Wd x y))∧bJ V w':=fun V hV=>Nw Aj Aj' ln cj ln' cj' x y V (kC.drawn hV) (ae8.drawn hV);obtain⟨bb,hbb⟩:∃ bb,Wd x y=bb:=⟨_,rfl⟩;rw[hbb] at hcall;have HC:=zH hcall;have Hw:=zH hbb;have HXX:=zH hx;have HYY:=zH hy;clear hc hc' kC ae8 hx hy hln aiu hcall hbb;have hq:∀ k,Calls Tryz.prog 30 #[.slice Aj ln cj,.slice Aj' ln' cj'] (wr.drewN k) fun e w''=>e=.returned (.bool bb)∧∃ m,w''=wr.drewN m:=fun k=>(HC.out _ ⟨k,rfl⟩).mono fun _ _ h=>⟨h.1,by obtain⟨j,e⟩:=h.2;exact⟨k+j,by rw[e,World.drewN_drewN]⟩⟩;have HQ:=zH hq;clear hq
    cases bb
    all_goals
     go_wp2
     go_quiet ((go_at_call 30;exact ae0 HQ.out))
     go_wp2
    ·go_ret
     refine⟨fV (Zr ?_).symm,hD.step _⟩;intro e;have:Wd x y=true:=SH.2 (by rw[←HXX.out,←HYY.out,e]);rw[Hw.out] at this
     cases this
    ·go_roundw
     case rel =>
      refine⟨k+1,by omega,by go_num,(?_:xss.take (k+1)=RV.take (k+1)),hD.step _⟩;rw[lI xss k (by have:=HR.out.len;omega),lI RV k (by have:=HR'.out.len;omega),HX.out,HXX.out,HYY.out,SH.1 Hw.out]
     case measure=>simp[intOf];omega
   ·go_wp2
    go_ret
    refine⟨fV (T9.2 ?_).symm,hD⟩;have:=HX.out
    rwa [List.take_of_length_le (by have:=HR.out.len;omega),List.take_of_length_le (by have:=HR'.out.len;omega)] at this
 ·have hd:((n:Int) != (m:Int))=true:=by simp;omega
  go_enter Tryz.func36,Tryz.ntmps36
  go_wp2
  go_ret
  refine⟨fV (Zr fun e=>hnm ?_).symm,bJ.refl w⟩;rw[←hr.len,←hr'.len,e]
theorem Iu (A:Option Addr) (n cap:Nat) (xss:List (List Int)) (w:World) (hr:um w A n xss) (hn:n≤1000000) (hs:∀ j,j<n→(gl xss j).length≤1000000) :
  Calls Tryz.prog 49 #[.slice A n cap] w fun e w'=>∃ (a:Option Nat) (c:Nat) (W:vk),e=.returned (.slice (a.map fun b=>⟨b,0,none⟩) n c)∧St w.heap.size w w' (star (bR 27 a c W) emp)∧W.map (fun x=>x.2.2)=xss∧W.length=n:=by
 have HR:=zH hr;have HS:=zH hs;clear hr hs
 go_enter Tryz.func49,Tryz.ntmps49
 go_wp2
 go_loopw [3,4] (fun v3 v4 wr=>∃ (j:Nat) (a:Option Nat) (c:Nat) (W:vk),j≤n∧v4=.int .i64 j∧v3=.slice (a.map fun b=>⟨b,0,none⟩) j c∧Hid (St w.heap.size w wr (star (bR 27 a c W) emp))∧Hid (W.map (fun x=>x.2.2)=xss.take j)∧Hid (W.length=j)) (fun _ v4 _=>n-(intOf v4).toNat)
 case atStart=>exact⟨0,none,0,[],Nat.zero_le _,rfl,rfl,(by rw[nI,aQ];exact St.start w:St w.heap.size w w (star (bR 27 none 0 []) emp)),(rfl:([]:vk).map (fun x=>x.2.2)=xss.take 0),(rfl:([]:vk).length=0)⟩
 case round =>
  obtain⟨j,a,c,W,hj,rfl,rfl,HST,HC,HL⟩:=hrel
  by_cases hjn:j<n
  ·obtain⟨ab,ao,hA,hc⟩:=(HR.out.grow HST.out.below).cells (by omega);subst hA;obtain⟨Aj,cj,d1,kC⟩:=hc j hjn;have hsm:=HS.out j hjn;obtain⟨xs,hxs⟩:∃ xs,gl xss j=xs:=⟨_,rfl⟩;obtain⟨ln,hln⟩:∃ ln,xs.length=ln:=⟨_,rfl⟩;rw[hxs,hln] at d1 kC;rw[hxs,hln] at hsm;have htk:xss.take (j+1)=xss.take j++[xs]:=by rw[lI xss j (by have:=HR.out.len;omega),hxs]
   have qH:=zH htk;have Gy:=zH kC;have fP:=zH hln;have hj0:(0:Int)≤(j:Int):=by omega
   have hj1:(j:Int)<(n:Int):=by omega
   clear hc kC hxs hln htk
   go_wp2_with fail
   refine (K7 Aj ln cj xs wr Gy.out (by omega)).mono ?_
   rintro e w3 ⟨ka,kc,rfl,k3⟩
   have h3:=jg ((HST.out.nest k3).aB (show _=star (bR 27 a c W) (bO 3 ka kc xs) by rw[aQ];ac_rfl)) HL.out;have H3:=zH h3;clear k3 h3;unfold iB
   go_wp2_with (at_builtin;refine aO rfl _ _ 37 27 (.slice none 0 0) 24 rfl Tryz.underlying37 Tryz.jB rfl H3.out rfl (.slice (ka.map fun b=>⟨b,0,none⟩) ln kc) rfl rfl (by omega) (by simp only[maxLen];omega) ?_;intro b' c' w4 h4;have H4:=zH h4;clear h4)
   have h5:=mh (F:=emp) (ka:=ka) (kc:=kc) (l:=xs) HL.out (by rw[fP.out];exact H4.out.aB (by rw[aQ];ac_rfl));have H5:=zH h5;clear h5
   go_wp2
   go_roundw
   case rel =>
    refine⟨j+1,some b',c',W++[(ka,kc,xs)],by omega,by go_num,rfl,H5.out,(?_:(W++[(ka,kc,xs)]).map (fun x=>x.2.2)=xss.take (j+1)),(?_:(W++[(ka,kc,xs)]).length=j+1)⟩
    ·rw[qH.out,List.map_append,HC.out];rfl
    ·rw[List.length_append,HL.out];rfl
   case measure=>simp[intOf];omega
  ·obtain rfl:j=n:=by omega
   have hlen:=HR.out.len;have htk:=HC.out;rw[List.take_of_length_le (by omega)] at htk;have qH:=zH htk;clear hlen htk
   go_wp2
   go_ret
   exact⟨a,c,W,rfl,HST.out,qH.out,HL.out⟩
theorem Zt (n:Int) {k:Nat} (h:k<4):(iw n).take (k+1)=(iw n).take k++[n/2 ^ (24-8*k) % 256]:=by
 obtain rfl | rfl | rfl | rfl:k=0∨k=1∨k=2∨k=3:=by omega
 ·rfl
 ·rfl
 ·rfl
 ·simp[iw]
theorem Zu {B:Nat} {w0 w:World} {F:HP} (a:Option Nat) (c:Nat) (xs:List Int) (n:Int) (h:St B w0 w (star (Ba 5 a c xs) F)) (hx:xs.length≤100000000) (_h0:0≤n) (_h1:n≤4294967295) :
  Calls Tryz.prog 76 #[iB a xs.length c,.int .i64 n] w fun e w'=>∃ a' c',e=.returned (iB a' (xs.length+4) c')∧St B w0 w' (star (Ba 5 a' c' (xs++iw n)) F):=by
 obtain⟨l,hl⟩:∃ l,xs.length=l:=⟨_,rfl⟩;have HL:=zH hl;have H:=zH h;rw[hl] at hx ⊢;clear h hl
 go_enter Tryz.func76,Tryz.ntmps76
 unfold iB
 go_wp2
 go_loopw [0,6] (fun v0 v6 wr=>∃ (k:Nat) (a':Option Nat) (c':Nat),k≤4∧v6=.int .i64 k∧v0=.slice (a'.map fun b=>⟨b,0,none⟩) (l+k) c'∧Hid (St B w0 wr (star (Ba 5 a' c' (xs++(iw n).take k)) F))) (fun _ v6 _=>4-(intOf v6).toNat)
 case atStart=>exact⟨0,a,c,Nat.zero_le _,rfl,rfl,(by rw[List.take_zero,List.append_nil];exact H.out:St B w0 w (star (Ba 5 a c (xs++(iw n).take 0)) F))⟩
 case round =>
  obtain⟨k,a',c',hk,rfl,rfl,HS⟩:=hrel
  by_cases hk4:k<4
  ·have hlen:(xs++(iw n).take k).length=l+k:=by rw[List.length_append,HL.out,List.length_take,iQ];omega
   have HLEN:=zH hlen;have htk:=Zt n hk4;have qH:=zH htk;have hk5:(k:Int)<4:=by omega
   clear hlen htk
   go_wp2_with (at_builtin;refine wpList_append_byte rfl _ _ 49 5 rfl Tryz.underlying49 Tryz.infoByte HS.out (l+k) HLEN.out rfl (n/2 ^ (24-8*k) % 256) rfl (by omega) ?_;intro b' c2 w4 h4;have H4:=zH h4;clear h4)
   go_roundw
   case rel =>
    refine⟨k+1,some b',c2,by omega,by go_num,rfl,(?_:St B w0 w4 (star (Ba 5 (some b') c2 (xs++(iw n).take (k+1))) F))⟩;rw[qH.out,←List.append_assoc];exact H4.out
   case measure=>simp[intOf];omega
  ·obtain rfl:k=4:=by omega
   go_wp2
   go_ret
   exact⟨a',c',rfl,HS.out⟩
theorem BS (n:Int) (h₀:0≤n) (h₁:n<2 ^ 40):IntKind.i64.wrap n=n:=IntWalk.i64_in _ (by omega)
theorem or8 {x y:Int} (h0:0≤x) (h1:x<1099511627776) (h2:x % 256=0) (h3:0≤y) (h4:y<256):bits .or .i64 x y=x+y:=bits_join .i64 40 (by decide) BS 8 x y h0 h2 h1 h3 h4 (by omega)
theorem amx {x y:Int} (h0:0≤x) (h1:x<1099511627776) (h2:x % 65536=0) (h3:0≤y) (h4:y<65536):bits .or .i64 x y=x+y:=bits_join .i64 40 (by decide) BS 16 x y h0 h2 h1 h3 h4 (by omega)
theorem amy {x y:Int} (h0:0≤x) (h1:x<1099511627776) (h2:x % 16777216=0) (h3:0≤y) (h4:y<16777216):bits .or .i64 x y=x+y:=bits_join .i64 40 (by decide) BS 24 x y h0 h2 h1 h3 h4 (by omega)
theorem pK.ade {w:World} {A:Option Addr} {n:Nat} {x y z u:Int} {r:List Int} {b o:Nat} (h:pK w A n (x :: y :: z :: u :: r)) (hA:A=some ⟨b,o,none⟩):pK w (some ⟨b,o+4,none⟩) (n-4) r:=by
 have hl:=h.len;simp only[List.length_cons] at hl;refine⟨by omega,by have:=h.small;omega,fun hp=>⟨b,o+4,rfl,fun j hj=>?_⟩⟩;obtain⟨b',o',e,hc⟩:=h.cells (by omega);rw[hA] at e;obtain⟨rfl,rfl⟩:b=b'∧o=o':=by simpa using e
 have:=hc (j+4) (by omega);rw[show o+4+j=o+(j+4) by omega,this];simp[gi]
theorem pK.none {w:World} {A:Option Addr}:pK w A 0 []:=⟨rfl,by omega,fun h=>absurd h (by omega)⟩
theorem jh (A:Option Addr) (n c:Nat) (b:List Int) (w:World) (hr:pK w A n b) (hb:dz b) (hc:n≤c) (_hcm:c≤9223372036854775807) :
  Calls Tryz.prog 98 #[.slice A n c] w fun e w'=>(dN b=none→e=.returned (.tuple #[.int .i64 0,.slice A n c,.bool false])∧bJ w w') ∧
   ∀ x r,dN b=some (x,r)→∃ A' c',e=.returned (.tuple #[.int .i64 x,.slice A' (n-4) c',.bool true])∧bJ w w'∧(∀ U,pK U A n b→pK U A' (n-4) r)∧n-4≤c'∧c'≤c:=by
 have hs:=hr.small;have HR:=zH hr;have hl:=hr.len
 by_cases h4:n<4
 ·have hd:decide ((n:Int)<4)=true:=by simp;omega
  have ht:dN b=none:=by
   match b,hl with
   | [],_=>rfl
   | [_],_=>rfl
   | [_,_],_=>rfl
   | [_,_,_],_=>rfl
   | _ :: _ :: _ :: _ :: _,hl=>simp at hl;omega
  have HT:=zH ht;clear hr hl ht
  go_enter Tryz.func98,Tryz.ntmps98
  go_wp2
  go_ret3
  exact⟨fun _=>⟨rfl,bJ.refl _⟩,fun x r h=>by rw[HT.out] at h;cases h⟩
 ·obtain⟨x,y,z,u,r,rfl⟩:∃ x y z u r,b=x :: y :: z :: u :: r:=by
   match b,hl with
   | x :: y :: z :: u :: r,_=>exact⟨x,y,z,u,r,rfl⟩
   | [],hl=>simp at hl;omega
   | [_],hl=>simp at hl;omega
   | [_,_],hl=>simp at hl;omega
   | [_,_,_],hl=>simp at hl;omega
  obtain⟨ab,ao,rfl,hcell⟩:=hr.cells (by omega);have d0:w.cell? ⟨ab,ao,none⟩=some (.int .u8 x):=hcell 0 (by omega);have d1:w.cell? ⟨ab,ao+1,none⟩=some (.int .u8 y):=hcell 1 (by omega);have d2:w.cell? ⟨ab,ao+2,none⟩=some (.int .u8 z):=hcell 2 (by omega);have d3:w.cell? ⟨ab,ao+3,none⟩=some (.int .u8 u):=hcell 3 (by omega);have hd:decide ((n:Int)<4)=false:=by simp;omega
  obtain⟨x0,x1⟩:=hb x (by simp);obtain⟨y0,y1⟩:=hb y (by simp);obtain⟨z0,z1⟩:=hb z (by simp);obtain⟨u0,u1⟩:=hb u (by simp);have h04:(4:Int)≤(n:Int):=by omega
  have h4c:(4:Int)≤(c:Int):=by omega
  clear hr hl hcell hb
  by_cases hx:127<x
  ·have hd2:decide (127<x)=true:=by simpa using hx
   have ht:dN (x :: y :: z :: u :: r)=none:=by show (if x≤127 then _ else _)=_;rw[if_neg (by omega)]
   have HT:=zH ht;clear ht
   go_enter Tryz.func98,Tryz.ntmps98
   go_wp2
   go_ret3
   exact⟨fun _=>⟨rfl,bJ.refl _⟩,fun x r h=>by rw[HT.out] at h;cases h⟩
  ·have hd2:decide (127<x)=false:=by simpa using hx
   have ht:dN (x :: y :: z :: u :: r)=some (bI x y z u,r):=by show (if x≤127 then _ else _)=_;rw[if_pos (by omega)]
   have HT:=zH ht;clear ht
   go_enter Tryz.func98,Tryz.ntmps98
   go_wp2
   go_loop [5,21] (fun v5 v21=>(v21=.int .i64 0∧v5=.int .i64 0)∨(v21=.int .i64 1∧v5=.int .i64 x)∨(v21=.int .i64 2∧v5=.int .i64 (x*256+y))∨(v21=.int .i64 3∧v5=.int .i64 ((x*256+y)*256+z))∨(v21=.int .i64 4∧v5=.int .i64 (((x*256+y)*256+z)*256+u))) (fun _ v21=>4-(intOf v21).toNat)
   case atStart=>exact .inl ⟨rfl,rfl⟩
   case round =>
    rcases hrel with ⟨rfl,rfl⟩ | ⟨rfl,rfl⟩ | ⟨rfl,rfl⟩ | ⟨rfl,rfl⟩ | ⟨rfl,rfl⟩
    ·have e:=or8 (x:=0) (y:=x) (by omega) (by omega) (by omega) x0 (by omega);rw[Int.zero_add] at e
     go_wp2
     go_round
     case rel=>exact .inr (.inl ⟨rfl,rfl⟩)
     case measure=>simp[intOf]
    ·have e:=or8 (x:=x*256) (y:=y) (by omega) (by omega) (by omega) y0 (by omega)
     go_wp2
     go_round
     case rel=>exact .inr (.inr (.inl ⟨rfl,rfl⟩))
     case measure=>simp[intOf]
    ·have e:=or8 (x:=(x*256+y)*256) (y:=z) (by omega) (by omega) (by omega) z0 (by omega)
     go_wp2
     go_round
     case rel=>exact .inr (.inr (.inr (.inl ⟨rfl,rfl⟩)))
     case measure=>simp[intOf]
    ·have e:=or8 (x:=((x*256+y)*256+z)*256) (y:=u) (by omega) (by omega) (by omega) u0 (by omega)
     go_wp2
     go_round
     case rel=>exact .inr (.inr (.inr (.inr ⟨rfl,rfl⟩)))
     case measure=>simp[intOf]
    ·have Rh:((x*256+y)*256+z)*256+u=bI x y z u:=by unfold bI;omega
     have Ns:=zH Rh;obtain⟨v,hv⟩:∃ v,((x*256+y)*256+z)*256+u=v:=⟨_,rfl⟩;rw[hv] at Ns ⊢;clear Rh hv
     by_cases hc4:c=4
     ·have Tk:n=4:=by omega
      subst hc4;subst Tk;have hr0:r=[]:=by have:=HR.out.len;simp at this;exact this
      go_wp2
      go_quiet (fail)
      go_wp2
      go_ret3
      refine⟨(fun h=>by rw[HT.out] at h;cases h),fun x' r' h=>?_⟩;rw[HT.out] at h
      cases h
      exact⟨_,_,(by rw[←Ns.out];rfl),⟨_,rfl⟩,fun _ _=>(by rw[hr0];exact pK.none),Nat.le_refl _,by omega⟩
     ·have hc5:(4:Int)<(c:Int):=by omega
      have hc6:4<c:=by omega
      go_wp2
      go_quiet (fail)
      go_wp2
      go_ret3
      refine⟨(fun h=>by rw[HT.out] at h;cases h),fun x' r' h=>?_⟩;rw[HT.out] at h
      cases h
      exact⟨some ⟨ab,ao+4,none⟩,c-4,(by rw[←Ns.out];rfl),⟨_,rfl⟩,fun _ hU=>pK.ade hU rfl,by omega,by omega⟩
theorem p9 (A:Option Addr) (n c:Nat) (b:List Int) (w:World) (hr:pK w A n b) (hb:dz b) (hc:n≤c) (_hcm:c≤9223372036854775807) :
  Calls Tryz.prog 77 #[.slice A n c] w fun e w'=>(n<4→e=.returned (.tuple #[.int .i64 0,.slice none 0 0,.bool false])∧bJ w w') ∧
   ∀ x y z u r,b=x :: y :: z :: u :: r→∃ A' c',e=.returned (.tuple #[.int .i64 (bI x y z u),.slice A' (n-4) c',.bool true])∧bJ w w'∧(∀ U,pK U A n b→pK U A' (n-4) r)∧n-4≤c'∧c'≤c:=by
 have hs:=hr.small;have HR:=zH hr;have hl:=hr.len
 by_cases h4:n<4
 ·have hd:decide ((n:Int)<4)=true:=by simp;omega
  have HL:=zH hl;clear hr hl
  go_enter Tryz.func77,Tryz.ntmps77
  go_wp2
  go_ret3
  refine⟨fun _=>⟨rfl,bJ.refl _⟩,fun x y z u r h=>?_⟩;have:=HL.out;rw[h] at this;simp at this;omega
 ·obtain⟨x,y,z,u,r,rfl⟩:∃ x y z u r,b=x :: y :: z :: u :: r:=by
   match b,hl with
   | x :: y :: z :: u :: r,_=>exact⟨x,y,z,u,r,rfl⟩
   | [],hl=>simp at hl;omega
   | [_],hl=>simp at hl;omega
   | [_,_],hl=>simp at hl;omega
   | [_,_,_],hl=>simp at hl;omega
  obtain⟨ab,ao,rfl,hcell⟩:=hr.cells (by omega);have d0:w.cell? ⟨ab,ao,none⟩=some (.int .u8 x):=hcell 0 (by omega);have d1:w.cell? ⟨ab,ao+1,none⟩=some (.int .u8 y):=hcell 1 (by omega);have d2:w.cell? ⟨ab,ao+2,none⟩=some (.int .u8 z):=hcell 2 (by omega);have d3:w.cell? ⟨ab,ao+3,none⟩=some (.int .u8 u):=hcell 3 (by omega);have hd:decide ((n:Int)<4)=false:=by simp;omega
  obtain⟨x0,x1⟩:=hb x (by simp);obtain⟨y0,y1⟩:=hb y (by simp);obtain⟨z0,z1⟩:=hb z (by simp);obtain⟨u0,u1⟩:=hb u (by simp);have h04:(4:Int)≤(n:Int):=by omega
  have h4c:(4:Int)≤(c:Int):=by omega
  have n0:(0:Int)<(n:Int):=by omega
  have n1:(1:Int)<(n:Int):=by omega
  have n2:(2:Int)<(n:Int):=by omega
  have n3:(3:Int)<(n:Int):=by omega
  have e1:IntKind.i64.wrap (x*16777216)=x*16777216:=IntWalk.i64_in _ (by omega);have e2:IntKind.i64.wrap (y*65536)=y*65536:=IntWalk.i64_in _ (by omega);have e3:IntKind.i64.wrap (z*256)=z*256:=IntWalk.i64_in _ (by omega);have f1:=amy (x:=x*16777216) (y:=y*65536) (by omega) (by omega) (by omega) (by omega) (by omega);have f2:=amx (x:=x*16777216+y*65536) (y:=z*256) (by omega) (by omega) (by omega) (by omega) (by omega);have f3:=or8 (x:=x*16777216+y*65536+z*256) (y:=u) (by omega) (by omega) (by omega) (by omega) (by omega);have Ns:=zH (show x*16777216+y*65536+z*256+u=bI x y z u from rfl);clear hr hl hcell hb
  by_cases hc4:c=4
  ·have Tk:n=4:=by omega
   subst hc4;subst Tk;have hr0:r=[]:=by have:=HR.out.len;simp at this;exact this
   have HR0:=zH hr0;clear hr0
   go_enter Tryz.func77,Tryz.ntmps77
   go_wp2
   go_quiet (fail)
   go_wp2
   go_ret3
   refine⟨fun h=>absurd h (by omega),fun x' y' z' u' r' h=>?_⟩
   cases h
   exact⟨_,_,(by rw[←Ns.out];rfl),⟨_,rfl⟩,fun _ _=>(by rw[HR0.out];exact pK.none),Nat.le_refl _,by omega⟩
  ·have hc5:(4:Int)<(c:Int):=by omega
   have hc6:4<c:=by omega
   go_enter Tryz.func77,Tryz.ntmps77
   go_wp2
   go_quiet (fail)
   go_wp2
   go_ret3
   refine⟨fun h=>absurd h (by omega),fun x' y' z' u' r' h=>?_⟩
   cases h
   exact⟨some ⟨ab,ao+4,none⟩,c-4,(by rw[←Ns.out];rfl),⟨_,rfl⟩,fun _ hU=>pK.ade hU rfl,by omega,by omega⟩
end Go.Proofs.YthbbmdnfkkffjaaGreat
