/-
  Parts of the proof, joined by program: Ref, Get.
-/
import Derived.Test.YthbbmdnfkkffjaaGreatZ23
import Derived.Test.YthbbmdnfkkffjaaGreatZ09
namespace Go.Proofs.YthbbmdnfkkffjaaGreat
open Go.RowKit Go.Maps Go.Proofs.PlaitSep Go.Proofs.PlaitPure Go.Proofs.PlaitSat
section
variable {B:Nat} {w0 w:World} {p:Nat} {M:MM} {F:HP}
set_option maxRecDepth 100000 in
set_option maxHeartbeats 4000000 in
theorem refused_any {Z:Nat→Prop} {rk:Nat→Nat} (A:Option Addr) (na ca:Nat) (assume:List Int) (l:Nat) (h:At B w0 w p M F) (hst:Stays B w0 F A na assume) (hok:RfOk M.sv assume l Z rk) :
  Calls Tryz.prog 91 #[.pointer (some ⟨p,0,none⟩),.slice A na ca,.int .u32 l] w fun e w'=>e=.returned (.tuple #[])∧∃ M',At B w0 w' p M' F∧M'.sv=M.sv.refused assume l:=by
 have hmm:=@run_makeMap Tryz.prog
 obtain⟨N,hN⟩:∃ N,M.value.xs.length=N:=⟨_,rfl⟩
 have hsm:N≤100000:=by rw[←hN];exact hok.small
 have c4:=h.c_value
 obtain⟨va,hva⟩:∃ va,(M.value.a.map fun b=>(⟨b,0,none⟩:Addr))=va:=⟨_,rfl⟩
 rw[hN,hva] at c4
 have hlv:=hok.l
 rw[show M.sv.value.length=N from hN] at hlv
 obtain⟨q,hq⟩:∃ q,l/2=q:=⟨_,rfl⟩
 have hvv:=fun V=>v_any l V (show l<1000000 by omega)
 have hnu:=fun V=>number_any l V (show l<1000000 by omega)
 have hnw:=lit_wfS (x:=numF l) (by rw[numF_abs];omega)
 rw[hq] at hvv hlv
 have HVV:=Lib.hid hvv
 have HNU:=Lib.hid hnu
 have HNW:=Lib.hid hnw
 have HST:=Lib.hid hst
 have HOK:=Lib.hid hok
 have HNV:=Lib.hid hN
 have HQ:=Lib.hid hq
 have HH:=Lib.hid h.st
 have HLN:=Lib.hid h.lastN
 clear h hst hok hN hva hq hvv hnu hnw
 go_enter Tryz.func91,Tryz.ntmps91
 go_upto_region 1 with (at_make;refine wpList_make rfl _ _ 84 4 (.bool false) 1 rfl Tryz.underlying84 Tryz.infoBool rfl N _ rfl rfl rfl (by omega) (by unfold maxLen;omega) (by omega) HH.out ?_;intro mb w1 h1;have H1:=Lib.hid h1;clear h1)
 have H2:=Lib.hid (show At B w0 w1 p M (star ((⟨some mb,N,List.replicate N false⟩:Fl Bool).hp 4 vB) F) from⟨H1.out.conseq (by unfold Fl.hp;simp only[List.length_replicate,List.map_replicate,vB];ac_rfl),HLN.out⟩)
 clear H1 HH c4
 obtain⟨k1,f1⟩:=H2.out.frow_e rfl (j:=q) (x:=false) (by show (List.replicate N false)[q]?=_;simp[hlv])
 simp only[vB] at k1
 have q0:(0:Int)≤(q:Int):=by omega
 have q1:(q:Int)<(N:Int):=by omega
 go_wp2_with fail
 refine (HVV.out _).mono ?_
 rintro e w2 ⟨rfl,rfl⟩
 go_upto_region 2 with fail
 have H3:=Lib.hid (show At B w0 (w1.setCell ⟨mb,q,none⟩ (.bool true)) p M (star ((⟨some mb,N,(List.replicate N false).set q true⟩:Fl Bool).hp 4 vB) F) from H2.out.fset (b:=mb) rfl (by show q<(List.replicate N false).length;simp[hlv]) true)
 clear k1 f1 H2 HVV
 revert H3
 generalize w1.setCell ⟨mb,q,none⟩ (.bool true)=w2
 intro H3
 have H4:=Lib.hid (St.mp_new (P:=Tryz.prog) (k:=3) (e:=3) H3.out.st)
 obtain⟨bm,hbm⟩:∃ b,w2.heap.size=b:=⟨_,rfl⟩
 rw[hbm] at H4
 go_wp2_with fail
 refine (HNU.out _).mono ?_
 rintro e w3 ⟨rfl,rfl⟩
 try rw[hbm]
 go_upto_region 3 with (refine wpList_map_ins rfl _ _ _ rfl H4.out Tryz.keyIntS Tryz.underlying102 Tryz.underlying3 Tryz.underlying3 (by decide) (numF l) 1 rfl rfl rfl HNW.out (by decide) ?_;intro w4 h4;have H5:=Lib.hid h4;clear h4)
 have h6:At B w0 w4 p M (rfF ⟨some mb,N,(List.replicate N false).set q true⟩ bm 1 (gF [numF l] []) ⟨none,0,[]⟩ ⟨none,0,[]⟩ F):=by
  have e1:upd (fun _=>0) (numF l) 1=gF [numF l] []:=by
   funext u
   unfold upd gF
   by_cases hu:u=numF l <;> simp[hu]
  have h5:=H5.out
  rw[e1] at h5
  refine⟨h5.conseq ?_,HLN.out⟩
  unfold rfF
  rw[show (⟨none,0,[]⟩:Fl Nat).hp 3 vN=emp from sl_empty _ _,show (⟨none,0,[]⟩:Fl Int).hp 3 vI=emp from sl_empty _ _,emp_star,emp_star]
  ac_rfl
 have H6:=Lib.hid h6
 clear H5 H4 H3 h6 hbm HNU HNW hmm
 have c12:=H6.out.c_trail
 obtain⟨nt,hnt⟩:∃ n,M.trail.xs.length=n:=⟨_,rfl⟩
 rw[hnt] at c12
 have htb:nt≤900000:=by rw[←hnt];exact HOK.out.trl
 have HNT:=Lib.hid hnt
 obtain⟨G,hG⟩:∃ G,M.sv.guiltGo nt ((List.replicate N false).set q true) [numF l] [] []=G:=⟨_,rfl⟩
 have HGD:=Lib.hid (show M.sv.refused assume l={ (M.sv.unitAll G.2.2 G.2.1).1 with core:=coreGo' G.1 assume,last:=(M.sv.unitAll G.2.2 G.2.1).2,told:=2 } by
  unfold SM.refused
  rw[show M.sv.trail.length=nt from hnt,show M.sv.value.length=N from HNV.out,HQ.out,hG]
  rfl)
 have HGG:=Lib.hid hG
 clear hnt hG
 go_wp2
 clear c12
 go_loopg [8,9,10] nt (fun gk s8 s9 s10 wr=>∃ (z:Int) (j nf nz ng:Nat) (mt:Fl Bool) (zr:Fl Nat) (fr:Fl Int) (g:List Int),s8=.slice (fr.a.map fun b=>⟨b,0,none⟩) nf fr.c∧s9=.slice (zr.a.map fun b=>⟨b,0,none⟩) nz zr.c∧s10=.int .i64 z∧z=(j:Int)-1∧j≤nt∧nf≤nt-j∧nz≤nt-j∧ng≤nt-j+1 ∧
  Hid (fr.xs.length=nf∧zr.xs.length=nz∧mt.xs.length=N∧mt.a=some mb∧(fr.xs=[]→fr.a=none)∧∀ v∈zr.xs,Z v)∧Hid (gk=j)∧Hid (At B w0 wr p M (rfF mt bm ng (gF g []) zr fr F))∧Hid (M.sv.guiltGo j mt.xs g fr.xs zr.xs=G))
 case atStart=>exact⟨_,nt,0,0,1,⟨some mb,N,(List.replicate N false).set q true⟩,⟨none,0,[]⟩,⟨none,0,[]⟩,[numF l],rfl,rfl,by go_num,rfl,Nat.le_refl _,by omega,by omega,by omega,⟨rfl,rfl,by simp,rfl,fun _=>rfl,by simp⟩,rfl,H6.out,HGG.out⟩
 case round =>
  clear H6 HGG
  obtain⟨z,j,nf,nz,ng,mt,zr,fr,g,rfl,rfl,rfl,hz,hjn,hnf,hnz,hng,HL,hg,H3,HE⟩:=hrel
  cases j with
  | zero =>
   obtain rfl:z=-1:=by omega
   clear hz
   have e2:decide ((0:Int)≤-1)=false:=by simp
   have hG:G=(g,fr.xs,zr.xs):=HE.out.symm
   obtain⟨Q,hQ⟩:∃ Q,M.sv.unitAll zr.xs fr.xs=Q:=⟨_,rfl⟩
   have hrf:M.sv.refused assume l={ Q.1 with core:=coreGo' g assume,last:=Q.2,told:=2 }:=by
    have h9:=HGD.out
    rw[hG] at h9
    dsimp only at h9
    rw[hQ] at h9
    exact h9
   have HRF:=Lib.hid hrf
   have HQQ:=Lib.hid hQ
   obtain⟨za,hza⟩:∃ za,(zr.a.map fun b=>(⟨b,0,none⟩:Addr))=za:=⟨_,rfl⟩
   try rw[hza]
   have HZA:=Lib.hid hza
   clear hG hrf hQ HE HGD hza
   go_wp2
   go_loopg [8,117] nz (fun gk s8 s117 wr=>∃ (k n:Nat) (fr2 u:Fl Int) (st:Fl (Fl Int)),s8=.slice (fr2.a.map fun b=>⟨b,0,none⟩) n fr2.c∧s117=.int .i64 k∧k≤nz∧n≤nf+k∧Hid (fr2.xs.length=n∧(fr2.xs=[]→fr2.a=none))∧Hid (gk=nz-k) ∧
    Hid (At B w0 wr p (M.u_un u st) (rfF mt bm ng (gF g []) zr fr2 F))∧Hid (Unt M.sv (MM.sv (M.u_un u st)))∧Hid (SM.unitAll (MM.sv (M.u_un u st)) (zr.xs.drop k) fr2.xs=Q))
   case atStart=>exact⟨0,nf,fr,M.units,M.steps,rfl,rfl,Nat.zero_le _,Nat.le_refl _,⟨HL.out.1,HL.out.2.2.2.2.1⟩,rfl,H3.out,Unt.refl _,HQQ.out⟩
   case round =>
    clear H3
    obtain⟨k,n,fr2,u,st,rfl,rfl,hkn,hnn,HFN,hg2,H4,HUT,HE⟩:=hrel
    by_cases hkl:k<nz
    ·have e3:decide ((k:Int)<(nz:Int))=true:=by simp;omega
     have hz4:=H4.out.frame (rfF_zr _ _ _ _ _ _ _)
     obtain⟨bz,hbz⟩:=hz4.frow_b (by rw[HL.out.2.1];omega)
     obtain rfl:za=some ⟨bz,0,none⟩:=by rw[←HZA.out,hbz];rfl
     obtain⟨v,hv⟩:∃ v,gn zr.xs k=v:=⟨_,rfl⟩
     have hkx:k<zr.xs.length:=by rw[HL.out.2.1];exact hkl
     obtain⟨k3,_⟩:=hz4.frow_e hbz (j:=k) (x:=v) (by rw[←hv];exact gn_some _ _ hkx)
     simp only[vN] at k3
     have z1:=HL.out.2.2.2.2.2 v (by rw[←hv];exact gn_mem _ _ hkx)
     have hdr:zr.xs.drop k=v :: zr.xs.drop (k+1):=by rw[←hv,gn_eq _ _ hkx];exact List.drop_eq_getElem_cons hkx
     have hE:=HE.out
     rw[hdr,SM.unitAll] at hE
     have hrq:=HOK.out.rk _ z1
     rw[show M.sv.value.length=N from HNV.out] at hrq
     have hun:SM.unit (MM.sv (M.u_un u st)) v=SM.unitGo N (MM.sv (M.u_un u st)) v:=by unfold SM.unit;rw[HUT.out.value,show M.sv.value.length=N from HNV.out]
     rw[hun] at hE
     have HC:=Lib.hid (unit_any N _ _ _ v H4.out (HOK.out.un.unt HUT.out) z1 hrq)
     have HTO:=Lib.hid (unit_to N (HOK.out.un.unt HUT.out) z1 hrq).1.unt
     obtain⟨x,hx⟩:∃ x,(SM.unitGo N (MM.sv (M.u_un u st)) v).2=x:=⟨_,rfl⟩
     rw[hx] at hE HC
     have HE2:=Lib.hid hE
     have p0:(0:Int)≤(k:Int):=by omega
     have p1:(k:Int)<(nz:Int):=by omega
     clear hE hv hbz hdr hkx hun hx HE z1 hrq hz4
     go_wp2_with fail
     refine HC.out.mono ?_
     rintro e w5 ⟨rfl,u4,s4,h4,h5⟩
     have H5:=Lib.hid ((show At B w0 w5 p (M.u_un u4 s4) (rfF mt bm ng (gF g []) zr fr2 F) from h4).frame (rfF_fr _ _ _ _ _ _ _))
     have HS5:=Lib.hid (show MM.sv (M.u_un u4 s4)=(SM.unitGo N (MM.sv (M.u_un u st)) v).1 from h5)
     have HFR:=Lib.hid (H5.out.frow HFN.out.1)
     have HLN2:=Lib.hid H5.out.lastN
     clear h4 h5 HC k3
     go_wp2_with (at_builtin;refine wpList_append1 rfl _ _ 27 3 (.int .i64 0) 8 rfl Tryz.underlying27 Tryz.infoIntS rfl HFR.out rfl (.int .i64 x) rfl rfl (by omega) (by simp only[maxLen];omega) ?_;intro b' c' w6 hs;have h6:=At.fpush (M:=M.u_un u4 s4) (enc:=vI) (x:=x) HLN2.out HFN.out.1 hs;have H6:=Lib.hid (h6.frame (rfF_fr _ _ _ _ _ ⟨some b',c',fr2.xs++[x]⟩ _).symm);clear hs h6)
     go_roundg (nz-(k+1))
     case measure=>have:=hg2.out;omega
     case rel=>exact⟨k+1,n+1,⟨some b',c',fr2.xs++[x]⟩,u4,s4,rfl,by go_num,by omega,by omega,Lib.hid ⟨by simp[HFN.out.1],by simp⟩,rfl,H6.out,Lib.hid (by rw[HS5.out];exact HUT.out.trans HTO.out),Lib.hid (by rw[HS5.out];exact HE2.out)⟩
    ·obtain rfl:k=nz:=by omega
     have e3:decide ((k:Int)<(k:Int))=false:=by simp
     have hR:Q=(MM.sv (M.u_un u st),fr2.xs):=by rw[←HE.out,List.drop_of_length_le (by rw[HL.out.2.1];exact Nat.le_refl _)];rfl
     have HR:=Lib.hid hR
     have c22:=H4.out.c_core
     have c23:=H4.out.c_last
     obtain⟨u1,hu1⟩:∃ x,Value.slice ((M.u_un u st).core.a.map fun b=>⟨b,0,none⟩) (M.u_un u st).core.xs.length (M.u_un u st).core.c=x:=⟨_,rfl⟩
     obtain⟨u2,hu2⟩:∃ x,Value.slice ((M.u_un u st).last.a.map fun b=>⟨b,0,none⟩) (M.u_un u st).last.xs.length (M.u_un u st).last.c=x:=⟨_,rfl⟩
     rw[hu1] at c22
     rw[hu2] at c23
     have f0:=H4.out.fz
     have h5:=(H4.out.nil_core).frame (show _=star (sl fr2.a n fr2.c 3 1 (fr2.xs.map vI)) (star (mp Tryz.prog 3 3 bm ng (gF g [])) (star (star (mt.hp 4 vB) (zr.hp 3 vN)) F)) by unfold rfF Fl.hp;rw[HFN.out.1];ac_rfl)
     have h6:=At.new_last h5 HFN.out.1 HFN.out.2
     have H6:=Lib.hid h6
     clear h5 h6 hu1 hu2 hR HE hg2
     go_upto_region 26 with fail
     clear c22 c23 f0
     revert H6
     generalize (wr.setCell ⟨p,22,none⟩ (.slice none 0 0)).setCell ⟨p,23,none⟩ (.slice (fr2.a.map fun b=>⟨b,0,none⟩) n fr2.c)=w7
     intro H6
     obtain⟨M3,hM3⟩:∃ M3,((M.u_un u st).u_core ⟨none,0,[]⟩).u_last ⟨fr2.a,fr2.c,fr2.xs⟩=M3:=⟨_,rfl⟩
     rw[hM3] at H6
     have hs3:∀ co:Fl Int,MM.sv ((M3.u_core co).u_told 2)={ Q.1 with core:=co.xs,last:=Q.2,told:=2 }:=by
      intro co
      rw[←hM3,HR.out]
      rfl
     have HS3:=Lib.hid hs3
     obtain⟨Y,hY⟩:∃ Y,star (mt.hp 4 vB) (zr.hp 3 vN)=Y:=⟨_,rfl⟩
     rw[hY] at H6
     have hm3:M3.u_core ⟨none,0,[]⟩=M3:=by rw[←hM3]
     have HM3:=Lib.hid hm3
     have hna:assume.length=na:=(At.rd0 HST.out (H6.out.dropF.dropF)).len
     have hnab:na≤1000000:=by rw[←hna];exact HOK.out.len
     have HNA:=Lib.hid hna
     clear hM3 hs3 hY hm3 hna
     go_wp2
     go_loopg [137] na (fun gk s137 wr=>∃ (k nc ng2:Nat) (co:Fl Int),s137=.int .i64 k∧k≤na∧nc≤k∧ng2≤ng+k∧Hid (co.xs.length=nc)∧Hid (gk=na-k) ∧
      Hid (At B w0 wr p (M3.u_core co) (star (mp Tryz.prog 3 3 bm ng2 (gF g co.xs)) (star Y F)))∧Hid (SM.coreGo g co.xs (assume.drop k)=coreGo' g assume))
     case atStart=>exact⟨0,0,ng,⟨none,0,[]⟩,rfl,Nat.zero_le _,Nat.le_refl _,Nat.le_refl _,rfl,rfl,Lib.hid (by rw[HM3.out];exact H6.out),rfl⟩
     case round =>
      clear H6
      obtain⟨k,nc,ng2,co,rfl,hkn2,hnc,hng2,HCN,hg3,H7,HE⟩:=hrel
      by_cases hkl2:k<na
      ·have e4:decide ((k:Int)<(na:Int))=true:=by simp;omega
       obtain⟨b,o,rfl,hc⟩:=(At.rd0 HST.out (H7.out.dropF.dropF)).cells (by omega)
       obtain⟨a,ha⟩:∃ a,gi assume k=a:=⟨_,rfl⟩
       have k3:=hc k hkl2
       rw[ha] at k3
       have hkx:k<assume.length:=by rw[HNA.out];exact hkl2
       have ham:a∈assume:=by rw[←ha,gi_eq _ _ hkx];exact List.getElem_mem hkx
       have hw:=lit_wfS (x:=a) (by have:=HOK.out.lits a ham;omega)
       have hdr:assume.drop k=a :: assume.drop (k+1):=by rw[←ha,gi_eq _ _ hkx];exact List.drop_eq_getElem_cons hkx
       have hE:=HE.out
       rw[hdr,SM.coreGo] at hE
       have hmp:=H7.out.rowF
       have hl1:=St.mp_look hmp Tryz.keyIntS Tryz.underlying102 Tryz.underlying3 Tryz.underlying3 Tryz.zeroIntS a hw
       obtain⟨fx,hfx⟩:∃ fx,gF g co.xs a=fx:=⟨_,rfl⟩
       rw[hfx] at hl1
       have HE2:=Lib.hid hE
       have HW:=Lib.hid hw
       have HMP:=Lib.hid hmp
       have HFX:=Lib.hid hfx
       have p0:(0:Int)≤(k:Int):=by omega
       have p1:(k:Int)<(na:Int):=by omega
       clear hE hdr ham hkx ha hc hw hmp hfx HE
       by_cases hf1:fx=1
       ·subst hf1
        have e5:decide ((1:Int)=1)=true:=by simp
        have hga:a∈g∧a∉co.xs:=by
         have h9:=HFX.out
         unfold gF at h9
         by_cases h1:a∈co.xs
         ·rw[if_pos h1] at h9;omega
         ·rw[if_neg h1] at h9
          by_cases h2:a∈g
          ·exact⟨h2,h1⟩
          ·rw[if_neg h2] at h9;omega
        have hE:=HE2.out
        rw[if_pos hga] at hE
        have HE3:=Lib.hid hE
        clear hE hga
        go_upto_region 31 with (at_mapUpdate;refine wpList_map_put rfl _ _ _ rfl HMP.out Tryz.keyIntS Tryz.underlying102 Tryz.underlying3 Tryz.underlying3 (by simp only[maxLen];omega) a 2 rfl rfl rfl HW.out (by decide) ?_;intro w9 h9;have H9:=Lib.hid h9;clear h9)
        have hupd:upd (gF g co.xs) a 2=gF g (co.xs++[a]):=by
         funext u
         unfold upd gF
         by_cases hu:u=a <;> simp[hu]
        have h10:=H9.out
        rw[hupd] at h10
        have H10:=Lib.hid (At.unrowF h10 H7.out.lastN)
        have c22:=H10.out.c_core
        have t22:=H10.out.t_core
        rw[show (M3.u_core co).core.xs.length=nc from HCN.out] at c22 t22
        have HT22:=Lib.hid t22
        have HLN2:=Lib.hid H10.out.lastN
        clear h10 hupd H9 t22 k3 hl1 HMP
        go_wp2_with (at_builtin;refine wpList_append1 rfl _ _ 27 3 (.int .i64 0) 8 rfl Tryz.underlying27 Tryz.infoIntS rfl HT22.out rfl (.int .i64 a) rfl rfl (by omega) (by simp only[maxLen];omega) ?_;intro b' c' w6 hs;have h6:=At.push_core (M:=M3.u_core co) (x:=a) HLN2.out HCN.out hs;have H6:=Lib.hid h6;clear hs h6;obtain⟨c7,f7⟩:=H6.out.1)
        go_roundg (na-(k+1))
        case measure=>have:=hg3.out;omega
        case rel=>exact⟨k+1,nc+1,ng2+1,⟨some b',c',co.xs++[a]⟩,by go_num,by omega,by omega,by omega,Lib.hid (by simp[HCN.out]),rfl,H6.out.2,HE3.out⟩
       ·have e5:decide (fx=1)=false:=by simpa using hf1
        have hE:=HE2.out
        rw[if_neg (show ¬ (a∈g∧a∉co.xs) from fun h=>hf1 (by rw[←HFX.out];unfold gF;rw[if_neg h.2,if_pos h.1]))] at hE
        have HE3:=Lib.hid hE
        clear hE
        go_wp2
        go_roundg (na-(k+1))
        case measure=>have:=hg3.out;omega
        case rel=>exact⟨k+1,nc,ng2,co,by go_num,by omega,by omega,by omega,HCN.out,rfl,H7.out,HE3.out⟩
      ·obtain rfl:k=na:=by omega
       have e4:decide ((k:Int)<(k:Int))=false:=by simp
       have hR:coreGo' g assume=co.xs:=by rw[←HE.out,List.drop_of_length_le (by rw[HNA.out];exact Nat.le_refl _)];rfl
       have HR2:=Lib.hid hR
       have c9:=H7.out.c_told
       have f9:=H7.out.fz 24
       have H9:=Lib.hid (H7.out.put_told 2)
       clear hR HE hg3
       go_wp2
       go_end0
       exact⟨rfl,_,H9.out.dropF.dropF,by rw[HRF.out,HR2.out];exact HS3.out co⟩
  | succ i =>
   obtain rfl:z=(i:Int):=by omega
   clear hz
   have e2:decide ((0:Int)≤(i:Int))=true:=by simp
   obtain⟨x,hx⟩:∃ x,gn M.trail.xs i=x:=⟨_,rfl⟩
   have hix:i<M.trail.xs.length:=by rw[HNT.out];omega
   have hxm:x∈M.sv.trail:=by rw[←hx];exact gn_mem _ _ hix
   obtain⟨bt,hbt⟩:=H3.out.b_trail (by omega)
   obtain⟨k1,_⟩:=H3.out.r_trail hbt (i:=i) (x:=x) (by rw[←hx];exact gn_some _ _ hix)
   simp only[vL] at k1
   have c12:=H3.out.c_trail
   rw[hbt,HNT.out] at c12
   simp only[Option.map_some] at c12
   have hxv:=HOK.out.tr _ hxm
   rw[show M.sv.value.length=N from HNV.out] at hxv
   have hx6:x<1000000:=by omega
   have HXV:=Lib.hid (fun V=>v_any x V hx6)
   have HXN:=Lib.hid (fun V=>number_any x V hx6)
   have hnw:=lit_wfS (x:=numF x) (by rw[numF_abs];omega)
   have HNW:=Lib.hid hnw
   have hr:=HOK.out.r x hxm
   have hzz:=HOK.out.z x hxm
   have hge:=HE.out
   rw[SM.guiltGo] at hge
   rw[show gn M.sv.trail i=x from hx] at hge
   obtain⟨q,hq⟩:∃ q,x/2=q:=⟨_,rfl⟩
   rw[hq] at HXV hxv hr hzz
   try dsimp only at hge
   rw[hq] at hge
   obtain⟨rv,hrv⟩:∃ r,gi M.sv.reason q=r:=⟨_,rfl⟩
   obtain⟨lv,hlv⟩:∃ lv,gn M.sv.level q=lv:=⟨_,rfl⟩
   obtain⟨m,hm⟩:∃ m,gB mt.xs q=m:=⟨_,rfl⟩
   rw[hrv,hlv] at hr
   rw[hlv] at hzz
   rw[hrv,hlv,hm] at hge
   have hrl:M.reason.xs.length=N:=by rw[←HNV.out];exact HOK.out.sz.reason
   have hll:M.level.xs.length=N:=by rw[←HNV.out];exact HOK.out.sz.level
   obtain⟨br,hbr⟩:=H3.out.b_reason (by omega)
   obtain⟨d2,_⟩:=H3.out.r_reason hbr (i:=q) (x:=rv) (by rw[←hrv];exact gi_map_eq _ _ (by omega))
   simp only[vI] at d2
   have c2:=H3.out.c_reason
   rw[hbr,hrl] at c2
   simp only[Option.map_some] at c2
   obtain⟨bv,hbv⟩:=H3.out.b_level (by omega)
   obtain⟨d3,_⟩:=H3.out.r_level hbv (i:=q) (x:=lv) (by rw[←hlv];exact gn_some _ _ (by show q<M.level.xs.length;omega))
   simp only[vN] at d3
   have c3:=H3.out.c_level
   rw[hbv,hll] at c3
   simp only[Option.map_some] at c3
   have hqm:q<mt.xs.length:=by rw[HL.out.2.2.1];exact hxv
   obtain⟨k4,_⟩:=H3.out.frow_e (r:=mt) HL.out.2.2.2.1 (j:=q) (x:=m) (by rw[←hm];exact gB_some _ _ hqm)
   simp only[vB] at k4
   have q0:(0:Int)≤(q:Int):=by omega
   have q1:(q:Int)<(N:Int):=by omega
   have t0:(0:Int)≤(i:Int):=by omega
   have t1:(i:Int)<(nt:Int):=by omega
   have HQX:=Lib.hid hq
   have HHR:=Lib.hid hr
   have HZZ:=Lib.hid hzz
   have HGE:=Lib.hid hge
   clear hr hzz hge HE hx hix hxm hbt hq hrv hlv hm hrl hll hbr hbv hnw
   go_upto_region 8 with fail
   go_quiet ((go_at_call 68;exact quietE HXV.out _))
   revert nq
   intro nq1
   have H4:=Lib.hid (H3.out.drewN nq1)
   have k4b:(wr.drewN nq1).cell? ⟨mb,q,none⟩=some (.bool m):=k4
   have c3b:(wr.drewN nq1).cell? ⟨p,8,none⟩=some (.slice (some ⟨bv,0,none⟩) N M.level.c):=c3
   have d3b:(wr.drewN nq1).cell? ⟨bv,q,none⟩=some (.int .i64 lv):=d3
   clear k1 c12 d2 c2 c3 d3 k4 H3
   go_upto_region 9 with fail
   revert H4 k4b c3b d3b
   generalize wr.drewN nq1=w5
   intro H4 k4b c3b d3b
   go_wp2_with fail
   refine (HXV.out _).mono ?_
   rintro e w6 ⟨rfl,rfl⟩
   cases m with
   | false =>
    have hge:=HGE.out
    rw[if_neg (by decide)] at hge
    have HGE2:=Lib.hid hge
    clear hge
    go_wp2
    go_roundg i
    case measure=>have:=hg.out;omega
    case rel=>exact⟨_,i,nf,nz,ng,mt,zr,fr,g,rfl,rfl,by go_num,rfl,by omega,by omega,by omega,by omega,HL.out,rfl,H4.out,HGE2.out⟩
   | true =>
    have hge:=HGE.out
    rw[if_pos rfl] at hge
    have HGE2:=Lib.hid hge
    clear hge HGE
    go_upto_region 10 with fail
    by_cases hl0:lv=0
    ·subst hl0
     have e5:decide (((0:Nat):Int)=0)=true:=by simp
     go_quiet ((go_at_call 68;exact quietE HXV.out _))
     revert nq
     intro nq2
     have hge:=HGE2.out
     rw[if_pos rfl] at hge
     have HGE3:=Lib.hid hge
     have H5:=Lib.hid ((H4.out.drewN nq2).frame (rfF_zr _ _ _ _ _ _ _))
     have HFR:=Lib.hid (H5.out.frow HL.out.2.1)
     have HLN2:=Lib.hid H5.out.lastN
     clear hge HGE2 H4 k4b c3b d3b
     go_upto_region 11 with fail
     go_wp2_with fail
     refine (HXV.out _).mono ?_
     rintro e w7 ⟨rfl,rfl⟩
     go_wp2_with (at_builtin;refine wpList_append1 rfl _ _ 27 3 (.int .i64 0) 8 rfl Tryz.underlying27 Tryz.infoIntS rfl HFR.out rfl (.int .i64 q) rfl rfl (by omega) (by simp only[maxLen];omega) ?_;intro b' c' w8 hs;have h6:=At.fpush (M:=M) (enc:=vN) (x:=q) HLN2.out HL.out.2.1 hs;have H6:=Lib.hid (h6.frame (rfF_zr _ _ _ _ ⟨some b',c',zr.xs++[q]⟩ _ _).symm);clear hs h6)
     have HZQ:=Lib.hid (show ∀ v∈zr.xs++[q],Z v from fun v hv=>by
      rcases List.mem_append.1 hv with h1 | h1
      ·exact HL.out.2.2.2.2.2 v h1
      ·simp at h1
       rw[h1]
       first | exact HZZ.out rfl | exact HZZ.out trivial)
     go_roundg i
     case measure=>have:=hg.out;omega
     case rel=>exact⟨_,i,nf,nz+1,ng,mt,⟨some b',c',zr.xs++[q]⟩,fr,g,rfl,rfl,by go_num,rfl,by omega,by omega,by omega,by omega,Lib.hid ⟨HL.out.1,by simp[HL.out.2.1],HL.out.2.2.1,HL.out.2.2.2.1,HL.out.2.2.2.2.1,HZQ.out⟩,rfl,H6.out,HGE3.out⟩
    ·have e5:decide ((lv:Int)=0)=false:=by simp;omega
     go_quiet ((go_at_call 68;exact quietE HXV.out _))
     revert nq
     intro nq2
     have hge:=HGE2.out
     rw[if_neg hl0] at hge
     have H5:=Lib.hid (H4.out.drewN nq2)
     have HGE3:=Lib.hid hge
     clear hge HGE2 H4 k4b c3b d3b
     go_upto_region 12 with fail
     revert H5
     generalize w5.drewN nq2=w7
     intro H5
     by_cases hrm:rv=-1
     ·subst hrm
      have e6:decide ((-1:Int)=-1)=true:=by simp
      have hge:=HGE3.out
      rw[if_pos rfl] at hge
      have HGE4:=Lib.hid hge
      have HM:=Lib.hid ((H5.out.frame (rfF_mp _ _ _ _ _ _ _)).st.conseq (show _=star (mp Tryz.prog 3 3 bm ng (gF g [])) (star (stars (parts p M)) (star (mt.hp 4 vB) (star (zr.hp 3 vN) (star (fr.hp 3 vI) F)))) by ac_rfl))
      clear hge HGE3
      go_wp2_with fail
      refine (HXN.out _).mono ?_
      rintro e w8 ⟨rfl,rfl⟩
      go_wp2_with (at_mapUpdate;refine wpList_map_put rfl _ _ _ rfl HM.out Tryz.keyIntS Tryz.underlying102 Tryz.underlying3 Tryz.underlying3 (by simp only[maxLen];omega) (numF x) 1 rfl rfl rfl HNW.out (by decide) ?_;intro w9 h9;have H9:=Lib.hid h9;clear h9)
      have hupd:upd (gF g []) (numF x) 1=gF (g++[numF x]) []:=by
       funext u
       unfold upd gF
       by_cases hu:u=numF x <;> simp[hu]
      have h10:At B w0 w9 p M (rfF mt bm (ng+1) (gF (g++[numF x]) []) zr fr F):=by
       have h9:=H9.out
       rw[hupd] at h9
       refine⟨h9.conseq ?_,HLN.out⟩
       unfold rfF
       ac_rfl
      have H10:=Lib.hid h10
      clear h10 hupd H9 HM
      go_roundg i
      case measure=>have:=hg.out;omega
      case rel=>exact⟨_,i,nf,nz,ng+1,mt,zr,fr,g++[numF x],rfl,rfl,by go_num,rfl,by omega,by omega,by omega,by omega,HL.out,rfl,H10.out,HGE4.out⟩
     ·have e6:decide (rv=-1)=false:=by simpa using hrm
      obtain⟨r,rfl,g2,g3,g4⟩:=(HHR.out hl0).resolve_left hrm
      have hge:=HGE3.out
      rw[if_neg hrm,Int.toNat_natCast] at hge
      have hcll:M.sv.cls.length=M.cls.xs.length:=by show (M.cls.xs.map _).length=_;rw[List.length_map]
      rw[hcll] at g2
      obtain⟨⟨r2,rd2⟩,hi2⟩:∃ x,M.cls.xs[r]?=some x:=⟨M.cls.xs[r],by simp[g2]⟩
      obtain⟨bc,hbc⟩:=H5.out.b_cls (by omega)
      obtain⟨o1,o2⟩:=H5.out.o_cls hbc hi2
      have c5:=H5.out.c_cls
      obtain⟨nc,hnc⟩:∃ n,M.cls.xs.length=n:=⟨_,rfl⟩
      rw[hbc,hnc] at c5
      simp only[Option.map_some] at c5
      obtain⟨p1,p2⟩:=cl_of hi2
      obtain⟨nr,hnr⟩:∃ n,r2.xs.length=n:=⟨_,rfl⟩
      obtain⟨ra,hra⟩:∃ ra,(r2.a.map fun b=>(⟨b,0,none⟩:Addr))=ra:=⟨_,rfl⟩
      rw[p1] at hge g3 g4
      rw[p2] at hge
      rw[hnr] at g3
      have r0:(0:Int)≤(r:Int):=by omega
      have r1:(r:Int)<(nc:Int):=by omega
      have HGE4:=Lib.hid hge
      have HG4:=Lib.hid g4
      have HI2:=Lib.hid hi2
      have HNR:=Lib.hid hnr
      have HRA:=Lib.hid hra
      have HBC:=Lib.hid hbc
      have HNC:=Lib.hid hnc
      have H6:=Lib.hid (H5.out.frame (rfF_fr _ _ _ _ _ _ _))
      have HFR:=Lib.hid (H6.out.frow HL.out.1)
      have HLN2:=Lib.hid H6.out.lastN
      clear hge g4 hi2 hnr hra p1 p2 hbc hnc hcll g2 HGE3 H5 o1
      go_upto_region 15 with (at_builtin;refine wpList_append1 rfl _ _ 27 3 (.int .i64 0) 8 rfl Tryz.underlying27 Tryz.infoIntS rfl HFR.out rfl (.int .i64 rd2) rfl rfl (by omega) (by simp only[maxLen];omega) ?_;intro b' c' w8 hs;have h6:=At.fpush (M:=M) (enc:=vI) (x:=rd2) HLN2.out HL.out.1 hs;have H7:=Lib.hid (h6.frame (rfF_fr _ _ _ _ _ ⟨some b',c',fr.xs++[rd2]⟩ _).symm);clear hs h6)
      clear o2 c5 HFR HLN2 H6
      have o1:=(H7.out.o_cls HBC.out HI2.out).1
      have c5:=H7.out.c_cls
      rw[HBC.out,HNC.out] at c5
      rw[HNR.out,HRA.out] at o1
      simp only[Option.map_some] at c5
      go_wp2
      clear o1 c5
      go_loopg [106] nr (fun gk2 s106 wr=>∃ (k:Nat) (mt2:Fl Bool),s106=.int .i64 k∧k≤nr∧Hid (gk2=nr-k)∧Hid (mt2.xs.length=N∧mt2.a=some mb∧mt2.xs=(r2.xs.take k).foldl (fun m y=>m.set (y/2) true) mt.xs)∧Hid (At B w0 wr p M (rfF mt2 bm ng (gF g []) zr ⟨some b',c',fr.xs++[rd2]⟩ F)))
      case atStart=>exact⟨0,mt,rfl,Nat.zero_le _,rfl,⟨HL.out.2.2.1,HL.out.2.2.2.1,by simp⟩,H7.out⟩
      case round =>
       clear H7
       obtain⟨k,mt2,rfl,hkn,hg2,HM2,H8⟩:=hrel
       by_cases hkl:k<nr
       ·have e7:decide ((k:Int)<(nr:Int))=true:=by simp;omega
        obtain⟨bl,hbl⟩:=(H8.out.rb_cls HI2.out).1 (by rw[HNR.out];omega)
        obtain rfl:ra=some ⟨bl,0,none⟩:=by rw[←HRA.out,hbl];rfl
        obtain⟨y,hy⟩:∃ y,gn r2.xs k=y:=⟨_,rfl⟩
        have hkx:k<r2.xs.length:=by rw[HNR.out];exact hkl
        obtain⟨k3,_⟩:=H8.out.e_cls HI2.out hbl (j:=k) (x:=y) (by rw[←hy];exact gn_some _ _ hkx)
        have hyv:=HG4.out y (by rw[←hy];exact gn_mem _ _ hkx)
        rw[show M.sv.value.length=N from HNV.out] at hyv
        have hy6:y<1000000:=by omega
        have HYV:=Lib.hid (fun V=>v_any y V hy6)
        have hfo:(r2.xs.take (k+1)).foldl (fun m y=>m.set (y/2) true) mt.xs=mt2.xs.set (y/2) true:=by
         rw[List.take_succ_eq_append_getElem hkx,List.foldl_append,←HM2.out.2.2,←gn_eq _ _ hkx,hy]
         rfl
        obtain⟨q2,hq2⟩:∃ q,y/2=q:=⟨_,rfl⟩
        rw[hq2] at HYV hyv hfo
        have hqm2:q2<mt2.xs.length:=by rw[HM2.out.1];exact hyv
        obtain⟨k6,f6⟩:=H8.out.frow_e (r:=mt2) HM2.out.2.1 (j:=q2) (x:=gB mt2.xs q2) (gB_some _ _ hqm2)
        simp only[vB] at k6
        have H9:=Lib.hid (show At B w0 (wr.setCell ⟨mb,q2,none⟩ (.bool true)) p M (rfF ⟨mt2.a,mt2.c,mt2.xs.set q2 true⟩ bm ng (gF g []) zr ⟨some b',c',fr.xs++[rd2]⟩ F) from H8.out.fset HM2.out.2.1 hqm2 true)
        have HFO:=Lib.hid hfo
        have q2a:(0:Int)≤(q2:Int):=by omega
        have q2b:(q2:Int)<(N:Int):=by omega
        have p0:(0:Int)≤(k:Int):=by omega
        have p1:(k:Int)<(nr:Int):=by omega
        clear hbl hy hkx hfo hq2 hqm2
        go_wp2_with fail
        refine (HYV.out _).mono ?_
        rintro e w9 ⟨rfl,rfl⟩
        go_wp2
        go_roundg (nr-(k+1))
        case measure=>have:=hg2.out;omega
        case rel=>exact⟨k+1,⟨mt2.a,mt2.c,mt2.xs.set q2 true⟩,by go_num,by omega,rfl,⟨by rw[List.length_set];exact HM2.out.1,HM2.out.2.1,HFO.out.symm⟩,H9.out⟩
       ·obtain rfl:k=nr:=by omega
        have e7:decide ((k:Int)<(k:Int))=false:=by simp
        have hmx:mt2.xs=r2.xs.foldl (fun m y=>m.set (y/2) true) mt.xs:=by rw[HM2.out.2.2,List.take_of_length_le (by rw[HNR.out];exact Nat.le_refl _)]
        have HMX:=Lib.hid hmx
        clear hmx hg2
        go_wp2
        go_roundg i
        case measure=>have:=hg.out;omega
        case rel=>exact⟨_,i,nf+1,nz,ng,mt2,zr,⟨some b',c',fr.xs++[rd2]⟩,g,rfl,rfl,by go_num,rfl,by omega,by omega,by omega,by omega,Lib.hid ⟨by simp[HL.out.1],HL.out.2.1,HM2.out.1,HM2.out.2.1,by simp,HL.out.2.2.2.2.2⟩,rfl,H8.out,Lib.hid (by rw[HMX.out];exact HGE4.out)⟩
end
end Go.Proofs.YthbbmdnfkkffjaaGreat
namespace Go.Proofs.YthbbmdnfkkffjaaGreat
open Go.RowKit Go.Proofs.PlaitSep Go.Proofs.PlaitPure Go.Proofs.PlaitSat
section
variable {B:Nat} {w0 w:World} {p:Nat} {M:MM} {F:HP}
set_option maxHeartbeats 800000 in
theorem SWords_any (h:At B w0 w p M F):Calls Tryz.prog 59 #[.pointer (some ⟨p,0,none⟩)] w fun e w'=>e=.returned (.int .i64 M.words)∧w=w':=by
 have c:=h.c_words
 clear h
 go_enter Tryz.func59,Tryz.ntmps59
 go_wp2
 go_ret
 exact⟨rfl,rfl⟩
set_option maxHeartbeats 800000 in
theorem STold_any (h:At B w0 w p M F):Calls Tryz.prog 55 #[.pointer (some ⟨p,0,none⟩)] w fun e w'=>e=.returned (.int .i64 M.told)∧w=w':=by
 have c:=h.c_told
 clear h
 go_enter Tryz.func55,Tryz.ntmps55
 go_wp2
 go_ret
 exact⟨rfl,rfl⟩
set_option maxHeartbeats 800000 in
theorem SGiven_any (h:At B w0 w p M F):Calls Tryz.prog 48 #[.pointer (some ⟨p,0,none⟩)] w fun e w'=>e=.returned (.slice (M.given.a.map fun b=>⟨b,0,none⟩) M.given.xs.length M.given.c)∧w=w':=by
 have c:=h.c_given
 clear h
 go_enter Tryz.func48,Tryz.ntmps48
 go_wp2
 go_ret
 exact⟨rfl,rfl⟩
set_option maxHeartbeats 800000 in
theorem SLearned_any (h:At B w0 w p M F):Calls Tryz.prog 51 #[.pointer (some ⟨p,0,none⟩)] w fun e w'=>e=.returned (.slice (M.learned.a.map fun b=>⟨b,0,none⟩) M.learned.xs.length M.learned.c)∧w=w':=by
 have c:=h.c_learned
 clear h
 go_enter Tryz.func51,Tryz.ntmps51
 go_wp2
 go_ret
 exact⟨rfl,rfl⟩
set_option maxHeartbeats 800000 in
theorem SRoom_any (n:Nat) (h:At B w0 w p M F) (hn:n≤1000000) (hw:M.words≤1000000000) :
  Calls Tryz.prog 65 #[.pointer (some ⟨p,0,none⟩),.int .i64 n] w fun e w'=>e=.returned (.bool (decide (M.words+n+2≤M.most)))∧Drawn w w':=by
 have c:=h.c_words
 have c2:=h.c_most
 obtain⟨x,hx⟩:∃ x,M.words=x:=⟨_,rfl⟩
 obtain⟨y,hy⟩:∃ y,M.most=y:=⟨_,rfl⟩
 rw[hx] at c hw ⊢
 rw[hy] at c2 ⊢
 clear h hx hy
 have h1:decide ((x:Int)+(n:Int)+2≤(y:Int))=decide (x+n+2≤y):=by
  apply decide_eq_decide.2
  omega
 have HB:=Lib.hid h1
 clear h1
 go_enter Tryz.func65,Tryz.ntmps65
 go_wp2
 go_quiet (fail)
 go_wp2
 go_ret
 exact⟨by rw[←HB.out];rfl,⟨_,rfl⟩⟩
end
end Go.Proofs.YthbbmdnfkkffjaaGreat
