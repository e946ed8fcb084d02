/-
  SatCores: the law's walk: whatever the script, it returns true.
-/
import Derived.Test.YthbbmdnfkkffjaaGreatY45
import Derived.BigQuiet
import Derived.Test.YthbbmdnfkkffjaaGreatY01
set_option maxHeartbeats 8000000
set_option maxRecDepth 100000
namespace Go.Proofs.YthbbmdnfkkffjaaGreat
open Go.RowKit Go.Proofs.aC Go.Proofs.aA
open Go.Proofs.au hiding SM
theorem rd_take {w:World} {A:Option Addr} {n:Nat} {xs:List Int} (h:Rd w A n xs) {i:Nat} (hi:i≤n):Rd w A i (xs.take i):=by
 refine⟨by rw[List.length_take,h.len];omega,by have:=h.small;omega,fun hp=>?_⟩;obtain⟨b,o,e,hc⟩:=h.cells (by omega);refine⟨b,o,e,fun j hj=>?_⟩;rw[hc j (by omega)];simp[gi,List.getD_eq_getElem?_getD,hj]
theorem sub_step {c C:List Int} {k at_:Nat} (h:(c.drop k).Sublist (C.drop at_)) (hk:k<c.length):at_<C.length∧(gi C at_=gi c k→(c.drop (k+1)).Sublist (C.drop (at_+1)))∧(gi C at_≠gi c k→(c.drop k).Sublist (C.drop (at_+1))):=by
 have ec:c.drop k=gi c k :: c.drop (k+1):=by rw[List.drop_eq_getElem_cons hk,dh _ _ hk]
 have hat:at_<C.length:=by
  have:=h.length_le;rw[List.length_drop,List.length_drop] at this;omega
 have eC:C.drop at_=gi C at_ :: C.drop (at_+1):=by rw[List.drop_eq_getElem_cons hat,dh _ _ hat]
 rw[ec,eC] at h;rw[ec];generalize gi C at_=x at h ⊢;generalize gi c k=y at h ⊢;refine⟨hat,fun e=>?_,fun e=>?_⟩
 ·subst e;exact List.cons_sublist_cons.1 h
 ·cases h with
  | cons _ h=>exact h
  | cons_cons _ h=>exact absurd rfl e
theorem core_fresh {c:List Int} (h:c.Nodup) {k:Nat} (hk:k<c.length):hasB (c.take k) (gi c k)=false:=by
 cases e:hasB (c.take k) (gi c k) with
 | false=>rfl
 | true =>
  have hm:=dO.1 e;rw[dh _ _ hk] at hm;have h2:=h;rw[←List.take_append_drop k c,List.nodup_append] at h2;have hm2:c[k]∈c.drop k:=by rw[List.drop_eq_getElem_cons hk];exact List.mem_cons_self
  exact absurd rfl (h2.2.2 _ hm _ hm2)
theorem core_cannot {asm:List Int} {S T:aA.SM} {v e:Int} (h:Answer asm S T v e) (hv:v=2) {n:Nat} (hG:∀ c∈T.given,∀ x∈c,0<x.natAbs∧x.natAbs≤n) (hA:∀ x∈asm,0<x.natAbs∧x.natAbs≤n):Ci (T.given++T.core.map fun x=>[x]) n=false:=by
 rcases h.out with ⟨k,_⟩ | ⟨_,_,_,k,_,k2⟩ | ⟨k,_⟩
 ·omega
 ·rw[←Bool.not_eq_true,Z6]
  ·rintro⟨a,ha⟩
   obtain⟨y,hy,ht⟩:=k2 a (fun c hc=>ha c (by rw[h.given];exact List.mem_append_left _ hc));obtain⟨x,hx,ht2⟩:=ha [y] (List.mem_append_right _ (List.mem_map.2 ⟨y,hy,rfl⟩));rw[List.mem_singleton] at hx;subst hx;rw[ht] at ht2
   cases ht2
  ·intro c hc;rcases List.mem_append.1 hc with m | m
   ·exact hG c m
   ·obtain⟨y,hy,rfl⟩:=List.mem_map.1 m;intro x hx;rw[List.mem_singleton] at hx;subst hx;exact hA _ (k.subset hy)
 ·omega
theorem satCores_any (A:Option Addr) (n cap:Nat) (l:List Stp) (w:World) (hr:Uh w A n l) :
  Calls Tryz.prog 4 #[.slice A n cap] w fun e w'=>e=.returned (.bool true)∧Below w.heap.size w w':=by
 have HR:=zH hr;clear hr
 go_enter Tryz.func4,Tryz.ntmps4
 go_wp2_with fail
 refine (rD w).mono ?_
 rintro e w1 ⟨rfl,hb1⟩
 have HB1:=zH hb1;have HL:=zH (rE A n cap l 9 w1 (HR.out.grow hb1) (by omega) (by omega));clear hb1
 go_wp2_with fail
 refine HL.out.mono ?_
 rintro e w2 ⟨b,rfl,hb2,Bu⟩
 have HB2:=zH (HB1.out.trans (hb2.mono HB1.out.size));clear hb2 HL HB1
 cases b with
 | false =>
  go_wp2
  go_ret
  exact⟨rfl,HB2.out⟩
 | true =>
  have yY:=Bu rfl;have hn:n≤120:=by have:=yY.n;rw[HR.out.len] at this;exact this
  have Db:=zH yY;have HR2:=zH (HR.out.grow HB2.out);clear Bu yY
  go_wp2_with fail
  refine (lC 262144 2000 w2).mono ?_
  rintro e w3 ⟨q,rfl,h3⟩
  have H3:=zH h3;clear h3
  go_wp2
  go_loopw [4] (fun v4 wr=>∃ (i:Nat) (S:aA.SM),i≤n∧v4=.int .i64 i∧Hid (Zs i S)∧Hid (∀ c∈S.given,∀ x∈c,x.natAbs≤9)∧Hid (bL w2.heap.size w2 wr q S emp)) (fun v4 _=>n-(intOf v4).toNat)
  case atStart=>exact⟨0,aA.SM.new 262144 2000,Nat.zero_le _,rfl,(BL 262144 2000).1,zH (fun c hc=>by cases hc),H3.out⟩
  case round =>
   clear H3;obtain⟨i,S,hi,rfl,HZ,Z8,HS⟩:=hrel
   by_cases hin:i<n
   ·have e1:decide ((i:Int)<(n:Int))=true:=by simp;omega
    obtain⟨ab,ao,rfl,hc⟩:=HR2.out.cells (by omega);obtain⟨LM,Aj,cj,dd1,pI⟩:=hc i hin;have d0:=(HS.out.below.cell (World.block_lt_of_cell? w2 _ LM)).trans LM;have d1:=(HS.out.below.cell (World.block_lt_of_cell? w2 _ dd1)).trans dd1;obtain⟨s,hs⟩:∃ s,gs l i=s:=⟨_,rfl⟩;have hsl:s∈l:=by rw[←hs,J8 _ _ (by rw[HR.out.len];exact hin)];exact List.getElem_mem _
    have hiv:=Db.out.vars s hsl
    have hls:s.2.length≤500:=by
     have h1:=jJ l (j:=i) (by rw[HR.out.len];exact hin);have h2:=nM l (show i+1≤l.length by rw[HR.out.len];omega);have h3:=Db.out.sum;rw[hs] at h1;omega
    rw[hs] at d0 d1 dd1 pI;obtain⟨ln,hln⟩:∃ ln,s.2.length=ln:=⟨_,rfl⟩;rw[hln] at d1 hls dd1 pI;have tZ:=zH pI;have HD1:=zH dd1;have V5:=zH hiv;have fP:=zH hln;have p0:(0:Int)≤(i:Int):=by omega
    have p1:(i:Int)<(n:Int):=by omega
    clear hc hs hsl hiv hln LM dd1 pI
    by_cases hx:s.1<2
    ·have e2:decide (s.1<2)=true:=by simpa using hx
     obtain⟨a1,a2⟩:=rF HZ.out s.2;have HAD:=zH (lD Aj ln cj s.2 HS.out (tZ.out.grow HS.out.below) (by omega) a1);have HZ2:=zH (a2.zs.up (by omega))
     have Hf:=zH (show ∀ c∈(fU S s.2).1.given,∀ x∈c,x.natAbs≤9 from fun c hc x hx=>by
      by_cases h0:(fU S s.2).2=0
      ·rw[(a2.yes h0).2.1] at hc;rcases List.mem_append.1 hc with k | k
       ·exact Z8.out c k x hx
       ·rw[List.mem_singleton] at k;subst k;have:=V5.out x (dA.1 hx);omega
      ·rw[(a2.no h0).1] at hc
       exact Z8.out c hc x hx)
     clear a1 a2
     go_wp2_with fail
     refine HAD.out.mono ?_
     rintro e w5 ⟨rfl,h5⟩
     have H5:=zH h5;clear h5 HAD d0 d1
     go_wp2
     go_roundw
     case rel=>exact⟨i+1,_,by omega,by go_num,HZ2.out,Hf.out,H5.out⟩
     case measure=>simp[intOf];omega
    ·have e2:decide (s.1<2)=false:=by simpa using hx
     obtain⟨hb,LV⟩:∃ b,hasB s.2 0=b:=⟨_,rfl⟩
     have hall:s.2.all fC=true→hasB s.2 0=false:=fun ha=>by
      cases h0:hasB s.2 0 with
      | false=>rfl
      | true =>
       have:=bD.1 (List.all_eq_true.1 ha 0 (dO.1 h0));exact absurd rfl this.1
     have Io:s.2.all fC=true→BI S s.2:=fun ha=>(fO HZ.out (by omega) (by rw[fP.out];omega) ha).1;have Ai:=zH (jH Aj ln cj s.2 HS.out (fun w' P k=>tZ.out.grow k.below) Io);obtain⟨R,hR⟩:∃ R,bK S s.2=R:=⟨_,rfl⟩;rw[hR] at Ai;have HRR:=zH hR;have P7:=zH LV;have Dk:=zH hall;clear hall Io hR
     go_wp2_with fail
     refine Ai.out.mono ?_
     rintro e w6 ⟨rfl,h6⟩
     have H6:=zH h6;have d3:=(h6.below.cell (World.block_lt_of_cell? w2 _ HD1.out)).trans HD1.out;have J7:=zH (sJ Aj ln cj s.2 0 w6 (tZ.out.grow h6.below));rw[LV] at J7;clear h6 Ai d0 d1 LV
     go_wp2_with fail
     refine J7.out.mono ?_
     rintro e w7 ⟨rfl,rfl⟩
     clear J7
     cases hb with
     | true =>
      have hne:R.1=S:=by
       have h1:=HRR.out;unfold bK at h1;rw[if_neg (fun ha=>by have:=Dk.out ha;rw[P7.out] at this;cases this)] at h1;rw[←h1]
      have tL:=zH hne;have HZ2:=zH (HZ.out.up (by omega));clear hne d3
      go_wp2
      go_roundw
      case rel=>exact⟨i+1,S,by omega,by go_num,HZ2.out,Z8.out,by have:=H6.out;rw[tL.out] at this;exact this⟩
      case measure=>simp[intOf];omega
     | false =>
      obtain⟨_,a2,a3⟩:=fO HZ.out (by omega) (xs:=s.2) (by rw[fP.out];omega) (lH (by omega) V5.out P7.out);rw[HRR.out] at a2 a3;have HZ2:=zH a2;have HA:=zH a3;have Hf:=zH (show ∀ c∈R.1.given,∀ x∈c,x.natAbs≤9 by rw[a3.given];exact Z8.out);clear a2 a3
      have hcl:R.1.core.length≤500:=by
       rcases HA.out.out with ⟨_,_,k,_⟩ | ⟨_,_,_,k,_⟩ | ⟨_,k,_⟩
       ·rw[k];simp
       ·have:=k.length_le;rw[fP.out] at this;omega
       ·rw[k];simp
      obtain⟨C,hC⟩:∃ C,R.1.core=C:=⟨_,rfl⟩;obtain⟨cl,abb⟩:∃ n,C.length=n:=⟨_,rfl⟩;rw[hC,abb] at hcl;have HC0:=zH (H6.out.PI C cl hC abb (by omega));have HC:=zH hC;have jW:=zH abb;clear hC abb d3
      go_wp2_with fail
      refine HC0.out.mono ?_
      rintro e w8 ⟨xa,xc,rfl,h8⟩
      have H8:=zH h8;clear h8 HC0
      by_cases hv:R.2.1=2
      ·have e3:(R.2.1 != 2)=false:=by simpa using hv
       have e4:decide (R.2.1=2)=true:=by simpa using hv
       have hsub:C.Sublist s.2∧C.Nodup:=by
        rcases HA.out.out with ⟨k,_⟩ | ⟨_,_,_,k,k2,_⟩ | ⟨k,_⟩
        ·omega
        ·rw[HC.out] at k k2;exact⟨k,k2⟩
        ·omega
       have HSB:=zH hsub.1;have HND:=zH hsub.2;have Qp:=zH hv;clear hsub hv
       go_wp2
       go_loopw [8,9] (fun v8 v9 wq=>∃ (at_ k:Nat),k≤cl∧at_≤ln∧v8=.int .i64 at_∧v9=.int .i64 k∧Hid ((C.drop k).Sublist (s.2.drop at_))∧Hid (bL w2.heap.size w2 wq q R.1 (star (bO 3 xa xc C) emp))) (fun _ v9 _=>cl-(intOf v9).toNat)
       case atStart=>exact⟨0,0,Nat.zero_le _,Nat.zero_le _,rfl,rfl,HSB.out,H8.out⟩
       case round =>
        clear H8;obtain⟨at_,k,hk,hat,rfl,rfl,HSU,H8⟩:=hrel
        by_cases hkc:k<cl
        ·have e5:decide ((k:Int)<(cl:Int))=true:=by simp;omega
         go_wp2
         go_loopw [8] (fun v8 wq=>∃ (at_:Nat),at_≤ln∧v8=.int .i64 at_∧Hid ((C.drop k).Sublist (s.2.drop at_))∧Hid (bL w2.heap.size w2 wq q R.1 (star (bO 3 xa xc C) emp))) (fun v8 _=>ln-(intOf v8).toNat)
         case atStart=>exact⟨at_,hat,rfl,HSU.out,H8.out⟩
         case round =>
          clear H8 HSU hat
          obtain⟨at_,hat,rfl,HSU,H8⟩:=hrel;obtain⟨a1,a2,a3⟩:=sub_step HSU.out (by rw[jW.out];exact hkc);rw[fP.out] at a1;have e6:decide ((at_:Int)<(ln:Int))=true:=by simp;omega
          have d3:=(H8.out.below.cell (World.block_lt_of_cell? w2 _ HD1.out)).trans HD1.out;obtain⟨rb,ro,rfl,hcc⟩:=(tZ.out.grow H8.out.below).cells (by omega);have d4:=hcc at_ a1;have hrc:=H8.out.rdI (by rw[jW.out];omega);rw[jW.out] at hrc;have HRC:=zH hrc
          have hxc:cl≤xc:=by
           obtain⟨X,kx⟩:=H8.out.stF;have:=(kx.aB (gJ _ _ _)).sat.aR.2.1;rw[jW.out] at this;exact this
          obtain⟨cb,co,hxa,hcd⟩:=hrc.cells (by omega);have d5:=hcd k hkc;obtain⟨x,hx⟩:∃ x,gi s.2 at_=x:=⟨_,rfl⟩;obtain⟨y,hy⟩:∃ y,gi C k=y:=⟨_,rfl⟩;rw[hx] at d4;rw[hy] at d5;rw[hx,hy] at a2 a3;have HXA:=zH hxa;have MP:=zH (core_fresh HND.out (k:=k) (by rw[jW.out];exact hkc));have HX:=zH hx;have HY:=zH hy;have k0:(0:Int)≤(k:Int):=by omega
          have k1:(k:Int)<(cl:Int):=by omega
          have l0:(0:Int)≤(at_:Int):=by omega
          have l1:(at_:Int)<(ln:Int):=by omega
          have hn60:ln≤500:=hls
          by_cases hxy:x=y
          ·have e7:(x != y)=false:=by simpa using hxy
           have e8:decide (x=y)=true:=by simpa using hxy
           have HA2:=zH (a2 hxy)
           have HHS:=zH (fun wz (hz:bL w2.heap.size w2 wz q R.1 (star (bO 3 xa xc C) emp))=>by
            have h1:=hz.rdI (by rw[jW.out];omega);rw[jW.out] at h1;have h2:=sJ (xa.map fun b=>⟨b,0,none⟩) k xc (C.take k) y wz (rd_take h1 (by omega));rw[←HY.out,MP.out,HY.out] at h2
            exact h2)
           rw[hxa] at HHS ⊢;clear a2 a3 hx hy hcc hcd hrc hxa hxy;have e9:decide ((at_:Int)=(ln:Int))=false:=by simp;omega
           have e10:((at_:Int)==(ln:Int))=false:=by simp;omega
           have e11:decide (at_=ln)=false:=by simp;omega
           have e12:(at_==ln)=false:=by simp;omega
           have e13:¬ at_=ln:=by omega
           go_wp2
           go_quiet (fail)
           go_wp2
           go_quiet ((go_at_call 20;exact (HHS.out _ (H8.out.drawn ⟨_,rfl⟩)).mono fun _ _ h=>⟨h.1,_,h.2.symm⟩))
           go_wp2
           rw[←HXA.out]
           go_roundw
           case rel=>exact⟨at_+1,k+1,by omega,by omega,by go_num,by go_num,HA2.out,by first | exact H8.out.drawn ⟨_,rfl⟩ | exact (H8.out.drawn ⟨_,rfl⟩).drawn ⟨_,rfl⟩⟩
           case measure=>simp[intOf];omega
          ·have e7:(x != y)=true:=by simpa using hxy
           have e8:decide (x=y)=false:=by simpa using hxy
           have HA3:=zH (a3 hxy);rw[hxa];clear a2 a3 hx hy hcc hcd hrc hxa hxy
           go_wp2
           go_quiet (fail)
           go_wp2
           go_roundw
           case rel=>exact⟨at_+1,by omega,by go_num,HA3.out,H8.out.drawn ⟨_,rfl⟩⟩
           case measure=>simp[intOf];omega
        ·obtain rfl:k=cl:=by omega
         have e5:decide ((k:Int)<(k:Int))=false:=by simp
         have hgs:∀ c∈R.1.given,∀ x∈c,0<x.natAbs∧x.natAbs≤9:=fun c hc x hx=>⟨((HZ2.out.ze.gs c hc).2 x hx).1,Hf.out c hc x hx⟩
         have hga:∀ x∈s.2,0<x.natAbs∧x.natAbs≤9:=fun x hx=>by
          have h1:=bD.1 (List.all_eq_true.1 (lH (by omega) V5.out P7.out) x hx);have h2:=V5.out x hx;omega
         have hcan:=core_cannot HA.out Qp.out hgs hga;rw[HC.out] at hcan
         have hgb:∀ c∈R.1.given,c.length≤65537:=fun c hc=>by
          obtain⟨k1,k2⟩:=HZ2.out.ze.gs c hc;exact (show Gc c from⟨k1,fun x hx=>⟨(k2 x hx).1,(k2 x hx).2.1⟩⟩).len
         have hgl:R.1.given.length≤500000:=by have:=HZ2.out.ze.gw;have:=HZ2.out.ze.ex.words;omega
         obtain⟨g,hg⟩:∃ g,R.1.given.length=g:=⟨_,rfl⟩;rw[hg] at hgl;have agO:=zH (H8.out.vG R.1.given g rfl hg (fun c hc=>by have:=hgb c hc;omega) (by omega))
         have HCAN:=zH (fun (wz:World) (A:Option Addr) (cap:Nat) (hz:bL w2.heap.size w2 wz q R.1 (star (bO 3 xa xc C) emp)) (hr:um wz A g R.1.given)=>by
          have h1:=hz.rdI (by rw[jW.out];omega);rw[jW.out] at h1;have h2:=PU A (xa.map fun b=>⟨b,0,none⟩) g cap k xc R.1.given C 9 wz hr h1 (fun c hc x hx=>by have:=hgs c hc x hx;omega) (fun x hx=>by have:=hga x (HSB.out.subset hx);omega) (fun c hc=>by have:=hgb c hc;omega) (by omega) (by omega) (by omega);rw[hcan] at h2
          exact h2)
         clear hgs hga hcan hgb hg
         go_wp2_with fail
         refine agO.out.mono ?_
         rintro e w9 ⟨ga,gc,rfl,h9,hr9⟩
         have HCC:=zH (HCAN.out w9 _ gc h9 hr9);have H9:=zH h9;clear h9 hr9 agO
         go_wp2_with fail
         refine HCC.out.mono ?_
         rintro e w10 ⟨rfl,anw⟩
         have DJ:=zH (H9.out.grow (anw)).drop;clear anw HCC HCAN
         go_wp2
         go_roundw
         case rel=>exact⟨i+1,R.1,by omega,by go_num,HZ2.out,Hf.out,DJ.out⟩
         case measure=>simp[intOf];omega
      ·have e3:(R.2.1 != 2)=true:=by simpa using hv
       have e4:decide (R.2.1=2)=false:=by simpa using hv
       have hq:cl=0∧(R.2.1=0→R.2.2≠0):=by
        rcases HA.out.out with ⟨k0,_,k,_⟩ | ⟨k,_⟩ | ⟨_,k,_,k2⟩
        ·rw[HC.out] at k;rw[←jW.out,k];exact⟨rfl,fun h=>by omega⟩
        ·exact absurd k hv
        ·rw[HC.out] at k;rw[←jW.out,k];exact⟨rfl,fun _=>by omega⟩
       obtain⟨hcl0,hq2⟩:=hq;subst hcl0;have H9:=zH H8.out.drop
       by_cases hv0:R.2.1=0
       ·have e5:decide (R.2.1=0)=true:=by simpa using hv0
        have e6:(R.2.1==0)=true:=by simpa using hv0
        have hne:=hq2 hv0;have e7:decide (R.2.2=0)=false:=by simpa using hne
        have e8:(R.2.2==0)=false:=by simpa using hne
        clear hq2 hv0 hne
        go_wp2
        go_roundw
        case rel=>exact⟨i+1,R.1,by omega,by go_num,HZ2.out,Hf.out,H9.out⟩
        case measure=>simp[intOf];omega
       ·have e5:decide (R.2.1=0)=false:=by simpa using hv0
        have e6:(R.2.1==0)=false:=by simpa using hv0
        clear hq2 hv0
        go_wp2
        go_roundw
        case rel=>exact⟨i+1,R.1,by omega,by go_num,HZ2.out,Hf.out,H9.out⟩
        case measure=>simp[intOf];omega
   ·obtain rfl:i=n:=by omega
    have e1:decide ((i:Int)<(i:Int))=false:=by simp
    have HB:=zH (HB2.out.trans (HS.out.below.mono HB2.out.size))
    go_wp2
    go_ret
    exact⟨rfl,HB.out⟩
end Go.Proofs.YthbbmdnfkkffjaaGreat
