/-
  SatLearned: the law's walk: whatever the script, it returns true.
-/
import Derived.Test.YthbbmdnfkkffjaaGreatYLeP
import Derived.Test.YthbbmdnfkkffjaaGreatY01
set_option maxHeartbeats 8000000
set_option maxRecDepth 100000
namespace Go.Proofs.YthbbmdnfkkffjaaGreat
open Go.RowKit Go.Proofs.aC Go.Proofs.aA
open Go.Proofs.au hiding SM
theorem satLearned_any_law (A:Option Addr) (n cap:Nat) (l:List Stp) (w:World) (hr:Uh w A n l) :
  Calls Tryz.prog 10 #[.slice A n cap] w fun e w'=>e=.returned (.bool true)∧Below w.heap.size w w':=by
 have HR:=zH hr;clear hr
 go_enter Tryz.func10,Tryz.ntmps10
 go_wp2_with fail
 refine (rD w).mono ?_
 rintro e w1 ⟨rfl,hb1⟩
 have HB1:=zH hb1;have HL:=zH (rE A n cap l 9 w1 (HR.out.grow hb1) (by omega) (by omega));clear hb1
 go_wp2_with fail
 refine HL.out.mono ?_
 rintro e w2 ⟨b,rfl,hb2,Bu⟩
 have HB2:=zH (HB1.out.trans (hb2.mono HB1.out.size));clear hb2 HL HB1
 cases b with
 | false =>
  go_wp2
  go_ret
  exact⟨rfl,HB2.out⟩
 | true =>
  have yY:=Bu rfl;have hn:n≤120:=by have:=yY.n;rw[HR.out.len] at this;exact this
  have Db:=zH yY;have HR2:=zH (HR.out.grow HB2.out);clear Bu yY
  go_wp2_with fail
  refine (lC 262144 2000 w2).mono ?_
  rintro e w3 ⟨q,rfl,h3⟩
  have H3:=zH h3;clear h3
  go_wp2
  go_loopw [4,5] (fun v4 v5 wr=>∃ (i m:Nat) (S:aA.SM) (E:List (List Nat)) (a:Option Nat) (c:Nat) (W:vk),i≤n∧v5=.int .i64 i∧v4=.slice (a.map fun b=>⟨b,0,none⟩) m c∧Hid (m≤i+E.length)∧Hid (Zs i S)∧Hid (IE 9 S E (qG l i+2*i))∧Hid (ZOk S.given E (W.map fun x=>x.2.2))∧Hid (W.length=m)∧Hid (bL w2.heap.size w2 wr q S (star (bR 27 a c W) emp))) (fun _ v5 _=>n-(intOf v5).toNat)
  case atStart=>exact⟨0,0,aA.SM.new 262144 2000,[],none,0,[],Nat.zero_le _,rfl,rfl,zH (Nat.zero_le _),(BL 262144 2000).1,IE.start 9 _ _,ZOk.nil _ _,zH rfl,H3.out.frame (by rw[nI,iA])⟩
  case round =>
   clear H3;obtain⟨i,m,S,E,a,c,W,hi,rfl,rfl,HME,HZ,HL9,HZK,jK,HS⟩:=hrel
   by_cases hin:i<n
   ·have e1:decide ((i:Int)<(n:Int))=true:=by simp;omega
    obtain⟨ab,ao,rfl,hc⟩:=HR2.out.cells (by omega);obtain⟨LM,Aj,cj,dd1,pI⟩:=hc i hin;have d0:=(HS.out.below.cell (World.block_lt_of_cell? w2 _ LM)).trans LM;have d1:=(HS.out.below.cell (World.block_lt_of_cell? w2 _ dd1)).trans dd1;obtain⟨s,hs⟩:∃ s,gs l i=s:=⟨_,rfl⟩;have hsl:s∈l:=by rw[←hs,J8 _ _ (by rw[HR.out.len];exact hin)];exact List.getElem_mem _
    have hiv:=Db.out.vars s hsl
    have hls:s.2.length≤500:=by
     have h1:=jJ l (j:=i) (by rw[HR.out.len];exact hin);have h2:=nM l (show i+1≤l.length by rw[HR.out.len];omega);have h3:=Db.out.sum;rw[hs] at h1;omega
    have hsu:qG l (i+1)=qG l i+s.2.length:=by rw[←hs];exact jJ l (by rw[HR.out.len];exact hin)
    rw[hs] at d0 d1 dd1 pI;obtain⟨ln,hln⟩:∃ ln,s.2.length=ln:=⟨_,rfl⟩;rw[hln] at d1 hls dd1 pI;have tZ:=zH pI;have HD1:=zH dd1;have V5:=zH hiv;have HSU:=zH hsu;have fP:=zH hln;have p0:(0:Int)≤(i:Int):=by omega
    have p1:(i:Int)<(n:Int):=by omega
    clear hc hs hsl hiv hln LM dd1 pI hsu
    by_cases hx:s.1<2
    ·have e2:decide (s.1<2)=true:=by simpa using hx
     obtain⟨a1,a2⟩:=rF HZ.out s.2;have HAD:=zH (lD Aj ln cj s.2 HS.out (tZ.out.grow HS.out.below) (by omega) a1);obtain⟨R,hR⟩:∃ R,fU S s.2=R:=⟨_,rfl⟩;rw[hR] at a2 HAD;have HZ2:=zH (a2.zs.up (by omega));have HA2:=zH a2;have HL2:=zH (show IE 9 R.1 E (qG l (i+1)+2*(i+1)) from (HL9.out.add a2 fun x hx=>by have:=V5.out x hx;omega).more (by have:=HSU.out;have:=fP.out;omega));have hmb:m≤30000:=by have:=HME.out;have:=HL9.out.few.1;omega
     clear a1 a2 hR
     go_wp2_with fail
     refine HAD.out.mono ?_
     rintro e w5 ⟨rfl,h5⟩
     have H5:=zH h5;have d3:=(h5.below.cell (World.block_lt_of_cell? w2 _ HD1.out)).trans HD1.out;clear h5 HAD d0 d1
     by_cases h0:R.2=0
     ·have e3:decide (R.2=0)=true:=by simpa using h0
      have e4:(R.2==0)=true:=by simpa using h0
      obtain⟨y1,y2,_⟩:=HA2.out.yes h0;have hok:∀ x∈s.2,gH x=true:=fun x hx=>lF.2 (by have:=bD.1 ((Ch y1).2 x hx);omega);obtain⟨z,hz,_⟩:=BU hok;have hso:=setOf_spec hz;have HK:=zH ((Po Aj ln cj s.2 w5 (tZ.out.grow H5.out.below) (by omega)).mono fun e w' h=>h.1 z hz);have HZK2:=zH (show ZOk R.1.given E ((W.map fun x=>x.2.2)++[z]) from (HZK.out.mono (fun x hx=>by rw[y2];exact List.mem_append_left _ hx) fun _ hx=>hx).snoc (.inl ⟨bQ s.2,by rw[y2];simp,hso.nodup,fun x=>(hso.mem x).trans dA.symm⟩));clear y1 y2 h0 hok hz hso
      go_wp2_with fail
      refine HK.out.mono ?_
      rintro e w6 ⟨oa,oc,rfl,hst⟩
      obtain⟨ol,hol⟩:∃ x,z.length=x:=⟨_,rfl⟩;have H6:=zH (H5.out.nest hst);have HOL:=zH hol;rw[hol];unfold iB;obtain⟨p,M,h7,hsv⟩:=H6.out;have h8:=jg (h7.st.aB (show _=star (bR 27 a c W) (star (bO 3 oa oc z) (star (stars (parts p M)) (pt q 67 [.pointer (some ⟨p,0,none⟩)]))) by rw[aQ];ac_rfl)) jK.out;have H8:=zH h8;have FB:=zH hsv;have Qu:=zH h7.bA;clear hst hol h7 h8 hsv d3 HK
      go_wp2_with (at_builtin;refine aO rfl _ _ 37 27 (.slice none 0 0) 24 rfl Tryz.underlying37 Tryz.jB rfl H8.out rfl (.slice (oa.map fun b=>⟨b,0,none⟩) ol oc) rfl rfl (by omega) (by simp only[maxLen];omega) ?_;intro b' c' w14 Qd;have H15:=zH Qd;clear Qd)
      have h16:=mh (F:=star (stars (parts p M)) (pt q 67 [.pointer (some ⟨p,0,none⟩)])) (ka:=oa) (kc:=oc) (l:=z) jK.out (H15.out.aB (by rw[HOL.out];ac_rfl));have H16:=zH (show bL w2.heap.size w2 w14 q R.1 (star (bR 27 (some b') c' (W++[(oa,oc,z)])) emp) from⟨p,M,⟨h16.aB (by rw[aQ];ac_rfl),Qu.out⟩,FB.out⟩);clear h16
      go_wp2
      go_roundw
      case rel=>exact⟨i+1,m+1,R.1,E,some b',c',W++[(oa,oc,z)],by omega,by go_num,rfl,zH (by have:=HME.out;omega),HZ2.out,HL2.out,zH (by rw[List.map_append];exact HZK2.out),zH (by rw[List.length_append,jK.out];rfl),H16.out⟩
      case measure=>simp[intOf];omega
     ·have e3:decide (R.2=0)=false:=by simpa using h0
      have e4:(R.2==0)=false:=by simpa using h0
      have HZK2:=zH (show ZOk R.1.given E (W.map fun x=>x.2.2) by rw[(HA2.out.no h0).1];exact HZK.out);clear h0 d3
      go_wp2
      go_roundw
      case rel=>exact⟨i+1,m,R.1,E,a,c,W,by omega,by go_num,rfl,zH (by have:=HME.out;omega),HZ2.out,HL2.out,HZK2.out,jK.out,H5.out⟩
      case measure=>simp[intOf];omega
    ·have e2:decide (s.1<2)=false:=by simpa using hx
     have J7:=zH (sJ Aj ln cj s.2 0 wr (tZ.out.grow HS.out.below));obtain⟨hb,LV⟩:∃ b,hasB s.2 0=b:=⟨_,rfl⟩;rw[LV] at J7;have P7:=zH LV;clear LV
     go_wp2_with fail
     refine J7.out.mono ?_
     rintro e w5 ⟨rfl,rfl⟩
     clear J7
     cases hb with
     | true =>
      have HZ2:=zH (HZ.out.up (by omega));clear d0 d1
      go_wp2
      go_roundw
      case rel=>exact⟨i+1,m,S,E,a,c,W,by omega,by go_num,rfl,zH (by have:=HME.out;omega),HZ2.out,zH (HL9.out.more (by have:=HSU.out;omega)),HZK.out,jK.out,HS.out⟩
      case measure=>simp[intOf];omega
     | false =>
      obtain⟨a1,a2,a3⟩:=fO HZ.out (by omega) (xs:=s.2) (by rw[fP.out];omega) (lH (by omega) V5.out P7.out);have Ai:=zH (jH Aj ln cj s.2 HS.out (fun w' P k=>tZ.out.grow k.below) (fun _=>a1));obtain⟨R,hR⟩:∃ R,bK S s.2=R:=⟨_,rfl⟩;rw[hR] at a2 a3 Ai;obtain⟨E2,q1,q2,q3⟩:=HL9.out.solve a3;have hone:=q1.oneL a3 q2;obtain⟨ai8,afG⟩:=a3.short a2
      have hgs:∀ c∈R.1.given,((c.map Int.natAbs).Nodup∧∀ x∈c,0<x.natAbs)∧(∀ x∈c,x.natAbs≤9)∧c.length≤65537:=fun c hc=>by
       obtain⟨k1,k2⟩:=a2.ze.gs c hc;exact⟨⟨k1,fun x hx=>(k2 x hx).1⟩,fun x hx=>(q1.gv c hc x hx).2,(show Gc c from⟨k1,fun x hx=>⟨(k2 x hx).1,(k2 x hx).2.1⟩⟩).len⟩
      obtain⟨nl,hnl⟩:∃ k,E2.length=k:=⟨_,rfl⟩;have ai4:=q1.few.1;rw[List.length_append,hnl] at ai4;have hgl:R.1.given.length≤500000:=by have:=a2.ze.gw;have:=a2.ze.ex.words;omega
      obtain⟨g,hg⟩:∃ g,R.1.given.length=g:=⟨_,rfl⟩;rw[hg] at hgl;have HG:=zH hg;have HZ2:=zH a2;have HA:=zH a3;have HL2:=zH q1;have HE2:=zH q2;have HNG:=zH q3;have HONE:=zH hone;have Ws:=zH (And.intro ai8 afG);have HGS:=zH hgs;have vR:=zH hnl;have HFEW:=zH ai4;have hmb:m≤i+E.length:=HME.out;have hfb:E.length+nl≤19683:=by omega
      clear a1 a2 a3 hR q1 q2 q3 hone ai8 afG hgs hg hnl ai4
      go_wp2_with fail
      refine Ai.out.mono ?_
      rintro e w6 ⟨rfl,h6⟩
      have H6:=zH h6;have Jh:=zH (gM h6 (fun c hc=>by have:=Ws.out.2 c hc;omega) (by have:=Ws.out.1;omega));clear h6 Ai
      go_wp2_with fail
      refine Jh.out.mono ?_
      rintro e w7 ⟨na,nc,V,rfl,hst,hVm⟩
      have hVl:V.length=nl:=by
       have h1:=congrArg List.length hVm;rw[HE2.out,List.length_map,List.length_map,vR.out] at h1;exact h1
      have h7:=(H6.out.nest hst).frame (show _=star (bR 27 a c W) (star (bR 27 na nc V) emp) by simp only[aQ];ac_rfl);have H7:=zH h7;rw[hVl];obtain⟨NA,hNA⟩:∃ NA,(na.map fun b=>(⟨b,0,none⟩:Addr))=NA:=⟨_,rfl⟩;rw[hNA]
      have Ie:=zH (show ∀ (wz:World) (F:HP),bL w2.heap.size w2 wz q R.1 (star (bR 27 na nc V) F)→um wz NA nl (E2.map fun c=>c.map aA.bI) from fun wz F hz=>by
       obtain⟨X,kx⟩:=hz.stF
       have:=pF (kx.aB (gJ _ _ _)) (fun y hy=>by
        have:=Ws.out.2 y.2.2 (by rw[←hVm];exact List.mem_map.2 ⟨y,hy,rfl⟩)
        omega) (by rw[hVl];omega)
       rw[hVl,hVm,HE2.out,hNA] at this
       exact this)
      have HZK1:=zH (show ZOk R.1.given E (W.map fun x=>x.2.2) by rw[HA.out.given];exact HZK.out);clear hst hVm hVl h7 hNA Jh d0 d1 HZK
      go_wp2
      go_loopw [4,9] (fun v4 v9 wq=>∃ (k m:Nat) (a:Option Nat) (c:Nat) (W:vk),k≤nl∧v9=.int .i64 k∧v4=.slice (a.map fun b=>⟨b,0,none⟩) m c∧m≤i+E.length+k∧Hid (ZOk R.1.given (E++E2.take k) (W.map fun x=>x.2.2))∧Hid (W.length=m)∧Hid (bL w2.heap.size w2 wq q R.1 (star (bR 27 a c W) (star (bR 27 na nc V) emp)))) (fun _ v9 _=>nl-(intOf v9).toNat)
      case atStart=>exact⟨0,m,a,c,W,Nat.zero_le _,rfl,rfl,by omega,zH (by rw[List.take_zero,List.append_nil];exact HZK1.out),jK.out,H7.out⟩
      case round =>
       clear H7 HZK1 jK hmb;obtain⟨k,m,a,c,W,hk,rfl,rfl,hm,HZK,jK,H7⟩:=hrel
       by_cases hkn:k<nl
       ·have e5:decide ((k:Int)<(nl:Int))=true:=by simp;omega
        have hkE:k<E2.length:=by rw[vR.out];exact hkn
        obtain⟨cc,hcc⟩:∃ cc,E2[k]=cc:=⟨_,rfl⟩;have hcm:cc∈E2:=by rw[←hcc];exact List.getElem_mem _
        have hon:=HONE.out cc hcm;obtain⟨z,hz,hso⟩:=hon.set (by omega);have hzl:z.length=cc.length:=by rw[hso.eq hon.nodup,List.length_map]
        have hcl9:cc.length≤9:=yV hon.nd fun x hx=>by have:=hon.vs x hx;omega
        have hr2:=Ie.out _ _ (H7.out.frame (show _=star (bR 27 na nc V) (star (bR 27 a c W) emp) by ac_rfl));obtain⟨cb,co,rfl,hcell⟩:=hr2.cells (by omega);obtain⟨Ak,ck,d5,hrk⟩:=hcell k hkn;have hgk:gl (E2.map fun c=>c.map aA.bI) k=cc.map aA.bI:=by rw[jq _ _ (by rw[List.length_map];exact hkE),List.getElem_map,hcc]
        rw[hgk] at d5 hrk;obtain⟨rl,hrl⟩:∃ x,cc.length=x:=⟨_,rfl⟩;rw[List.length_map,hrl] at d5 hrk;have HK:=zH ((Po Ak rl ck (cc.map aA.bI) wr hrk (by omega)).mono fun e w' h=>h.1 z hz);have HENT:=zH (hon.afB (fun g hg=>(HGS.out g hg).1.2) hso 9);have HBOTH:=zH (hon.both hso)
        have hfr:=fresh_set HZK.out hon (fun g hg=>(HGS.out g hg).1) (fun g hg=>by
         rw[HA.out.given] at hg
         exact HNG.out cc hcm g hg) (fun d hd=>by
         have hd2:d∈E++E2:=by
          rcases List.mem_append.1 hd with y | y
          ·exact List.mem_append_left _ y
          ·exact List.mem_append_right _ (List.mem_of_mem_take y)
         refine⟨?_,HL2.out.nd d hd2,fun x hx=>(HL2.out.vs d hd2 x hx).1⟩;have hpw:=HL2.out.pw;rw[List.pairwise_append] at hpw;rcases List.mem_append.1 hd with y | y
         ·exact hpw.2.2 d y cc hcm
         ·have h2:=hpw.2.1;rw[←List.take_append_drop k E2,List.pairwise_append] at h2;refine h2.2.2 d y cc ?_;rw[List.drop_eq_getElem_cons hkE,hcc]
          exact List.mem_cons_self) hso
        have MP:=zH hfr;have HZS:=zH (show ∀ x∈z,x≠0∧-60≤x∧x≤60 from fun x hx=>by have:=hon.lits x ((hso.mem x).1 hx);omega)
        have HZK2:=zH (show ZOk R.1.given (E++E2.take (k+1)) ((W.map fun x=>x.2.2)++[z]) from (HZK.out.mono (fun _ h=>h) (fun x hx=>by
         rcases List.mem_append.1 hx with y | y
         ·exact List.mem_append_left _ y
         ·refine List.mem_append_right _ ?_;rw[List.take_succ_eq_append_getElem hkE]
          exact List.mem_append_left _ y)).snoc (.inr ⟨cc,List.mem_append_right _ (by rw[List.take_succ_eq_append_getElem hkE,hcc];simp),hso⟩))
        have HZL:=zH (show ∀ y∈W.map (fun x=>x.2.2),y.length≤65537 from fun y hy=>by
         rcases HZK.out y hy with ⟨g,hg,q⟩ | ⟨d,hd,q⟩
         ·exact Nat.le_trans q.le (HGS.out g hg).2.2
         ·have hd2:d∈E++E2:=by
           rcases List.mem_append.1 hd with y | y
           ·exact List.mem_append_left _ y
           ·exact List.mem_append_right _ (List.mem_of_mem_take y)
          have q1:=q.le;rw[List.length_map] at q1;have:=HL2.out.short d hd2
          omega)
        have k0:(0:Int)≤(k:Int):=by omega
        have k1:(k:Int)<(nl:Int):=by omega
        rw[hrl] at hzl hcl9;have HZN:=zH hzl;have HGK:=zH hgk;have HRL:=zH hrl;clear hcc hcm hon hz hso hr2 hcell hgk hrl hrk hfr
        go_wp2_with fail
        refine HK.out.mono ?_
        rintro e w8 ⟨ca,cq,rfl,Ho⟩
        have H8:=zH ((H7.out.nest Ho));rw[hzl];unfold iB;obtain⟨CA,hCA⟩:∃ CA,(ca.map fun b=>(⟨b,0,none⟩:Addr))=CA:=⟨_,rfl⟩;rw[hCA];have HCA:=zH hCA
        have HCR:=zH (show ∀ (wz:World) (F:HP),bL w2.heap.size w2 wz q R.1 (star (bO 3 ca cq z) F)→Rd wz CA rl z from fun wz F hz=>by
         have:=hz.rdI (by rw[HZN.out];omega);rw[HZN.out,hCA] at this
         exact this)
        obtain⟨cb2,co2,e8,hc8⟩:=(Ie.out w8 _ (H8.out.frame (show _=star (bR 27 na nc V) (star (bO 3 ca cq z) (star (bR 27 a c W) emp)) by ac_rfl))).cells (by omega);simp only[Option.some.injEq,Addr.mk.injEq,and_true] at e8;obtain⟨rfl,rfl⟩:=e8;obtain⟨Az,cz,d8,_⟩:=hc8 k hkn;rw[HGK.out,List.length_map,HRL.out] at d8;have e9:((rl:Int) != (rl:Int))=false:=by simp
        have HC0:=zH (H8.out.vG R.1.given g rfl HG.out (fun c hc=>by have:=(HGS.out c hc).2.2;omega) (by omega));clear Ho hzl hCA HK hc8 d5
        go_wp2_with fail
        refine HC0.out.mono ?_
        rintro e w9 ⟨ga,gc,rfl,h9,hr9⟩
        have H9:=zH h9;have hen:=adw _ g gc R.1.given CA rl cq z 9 w9 hr9 (HCR.out _ _ h9) (fun c hc x hx=>by have h1:=(HGS.out c hc).1.2 x hx;have h2:=(HGS.out c hc).2.1 x hx;omega) HZS.out (by omega);rw[HENT.out] at hen;have HEN:=zH hen;clear h9 hr9 hen HC0 d8
        go_wp2_with fail
        refine HEN.out.mono ?_
        rintro e w10 ⟨rfl,aje⟩
        have DJ:=zH (H9.out.drawn aje);clear aje HEN
        go_wp2
        go_loopw [12] (fun v12 wq=>∃ j:Nat,j≤rl∧v12=.int .i64 j∧Hid (bL w2.heap.size w2 wq q R.1 (star (bO 3 ca cq z) (star (bR 27 a c W) (star (bR 27 na nc V) emp))))) (fun v12 _=>rl-(intOf v12).toNat)
        case atStart=>exact⟨0,Nat.zero_le _,rfl,DJ.out⟩
        case round =>
         clear DJ H9 H8;obtain⟨j,hj,rfl,DJ⟩:=hrel
         by_cases hjr:j<rl
         ·have f1:decide ((j:Int)<(rl:Int))=true:=by simp;omega
          have hrz:=HCR.out _ _ DJ.out;obtain⟨xb,xo,rfl,hcx⟩:=hrz.cells (by omega);have d9:=hcx j hjr;have hjm:gi z j∈z:=by rw[dh _ _ (by rw[HZN.out];exact hjr)];exact List.getElem_mem _
          obtain⟨x,hx⟩:∃ x,gi z j=x:=⟨_,rfl⟩;rw[hx] at d9 hjm;have hxb:=HZS.out x hjm;have HHX:=zH (sJ (some ⟨xb,xo,none⟩) rl cq z (-x) wr hrz);rw[HBOTH.out x hjm] at HHX;have j0:(0:Int)≤(j:Int):=by omega
          have j1:(j:Int)<(rl:Int):=by omega
          clear hrz hcx hjm hx
          go_wp2_with fail
          refine HHX.out.mono ?_
          rintro e w11 ⟨rfl,rfl⟩
          go_wp2
          go_roundw
          case rel=>exact⟨j+1,by omega,by go_num,DJ.out⟩
          case measure=>simp[intOf];omega
         ·obtain rfl:j=rl:=by omega
          have f1:decide ((j:Int)<(j:Int))=false:=by simp
          obtain⟨SA,hSA⟩:∃ SA,(a.map fun b=>(⟨b,0,none⟩:Addr))=SA:=⟨_,rfl⟩;rw[hSA];have HSA:=zH hSA
          have HRW:=zH (show ∀ (wz:World) (F:HP),bL w2.heap.size w2 wz q R.1 (star (bR 27 a c W) F)→um wz SA m (W.map fun x=>x.2.2) from fun wz F hz=>by
           obtain⟨X,kx⟩:=hz.stF
           have:=pF (kx.aB (gJ _ _ _)) (fun y hy=>by
            have:=HZL.out y.2.2 (List.mem_map.2 ⟨y,hy,rfl⟩)
            omega) (by rw[jK.out];omega)
           rw[jK.out,hSA] at this
           exact this)
          clear hSA
          go_wp2
          go_loopw [13] (fun v13 wq=>∃ t:Nat,t≤m∧v13=.int .i64 t∧Hid (bL w2.heap.size w2 wq q R.1 (star (bO 3 ca cq z) (star (bR 27 a c W) (star (bR 27 na nc V) emp))))) (fun v13 _=>m-(intOf v13).toNat)
          case atStart=>exact⟨0,Nat.zero_le _,rfl,DJ.out⟩
          case round =>
           clear DJ;obtain⟨t,ht,rfl,DJ⟩:=hrel
           by_cases htm:t<m
           ·have f2:decide ((t:Int)<(m:Int))=true:=by simp;omega
            obtain⟨sb,so,rfl,hcs⟩:=(HRW.out _ _ (DJ.out.frame (show _=star (bR 27 a c W) (star (bO 3 ca cq z) (star (bR 27 na nc V) emp)) by ac_rfl))).cells (by omega);obtain⟨Ay,cy,d9,hry⟩:=hcs t htm;have hym:gl (W.map fun x=>x.2.2) t∈W.map fun x=>x.2.2:=by rw[jq _ _ (by rw[List.length_map,jK.out];exact htm)];exact List.getElem_mem _
            obtain⟨y,hy⟩:∃ y,gl (W.map fun x=>x.2.2) t=y:=⟨_,rfl⟩;rw[hy] at d9 hry hym;obtain⟨yl,hyl⟩:∃ k,y.length=k:=⟨_,rfl⟩;rw[hyl] at d9 hry;have HII:=zH (Nw Ay CA yl cy j cq y z wr hry (HCR.out _ _ DJ.out));rw[MP.out y hym] at HII;have t0:(0:Int)≤(t:Int):=by omega
            have t1:(t:Int)<(m:Int):=by omega
            clear hcs hry hym hy hyl
            go_wp2_with fail
            refine HII.out.mono ?_
            rintro e w11 ⟨rfl,hd11⟩
            have H11:=zH (DJ.out.drawn hd11);clear hd11
            go_wp2
            go_roundw
            case rel=>exact⟨t+1,by omega,by go_num,H11.out⟩
            case measure=>simp[intOf];omega
           ·obtain rfl:t=m:=by omega
            have f2:decide ((t:Int)<(t:Int))=false:=by simp
            have hSA:=HSA.out;subst hSA;have hCA:=HCA.out;subst hCA;obtain⟨p,M,h12,hsv⟩:=DJ.out;have FE:=jg (h12.st.aB (show _=star (bR 27 a c W) (star (bO 3 ca cq z) (star (bR 27 na nc V) (star (stars (parts p M)) (pt q 67 [.pointer (some ⟨p,0,none⟩)])))) by rw[aQ];ac_rfl)) jK.out;have Wo:=zH FE;have FB:=zH hsv;have Qu:=zH h12.bA;clear h12 FE hsv
            go_wp2_with (at_builtin;refine aO rfl _ _ 37 27 (.slice none 0 0) 24 rfl Tryz.underlying37 Tryz.jB rfl Wo.out rfl (.slice (ca.map fun b=>⟨b,0,none⟩) j cq) rfl rfl (by omega) (by simp only[maxLen];omega) ?_;intro b' c' w14 Qd;have H15:=zH Qd;clear Qd)
            have h16:=mh (F:=star (bR 27 na nc V) (star (stars (parts p M)) (pt q 67 [.pointer (some ⟨p,0,none⟩)]))) (ka:=ca) (kc:=cq) (l:=z) jK.out (H15.out.aB (by rw[HZN.out];ac_rfl));have H16:=zH (show bL w2.heap.size w2 w14 q R.1 (star (bR 27 (some b') c' (W++[(ca,cq,z)])) (star (bR 27 na nc V) emp)) from⟨p,M,⟨h16.aB (by rw[aQ];ac_rfl),Qu.out⟩,FB.out⟩);clear h16
            go_wp2
            go_roundw
            case rel=>exact⟨k+1,t+1,some b',c',W++[(ca,cq,z)],by omega,by go_num,rfl,by omega,zH (by rw[List.map_append];exact HZK2.out),zH (by rw[List.length_append,jK.out];rfl),H16.out⟩
            case measure=>simp[intOf];omega
       ·obtain rfl:k=nl:=by omega
        have e5:decide ((k:Int)<(k:Int))=false:=by simp
        have H8:=zH (H7.out.frame (show _=star (bR 27 na nc V) (star (bR 27 a c W) emp) by ac_rfl)).drop
        have HZK2:=zH (show ZOk R.1.given (E++E2) (W.map fun x=>x.2.2) by
         have:=HZK.out;rw[List.take_of_length_le (by rw[vR.out];exact Nat.le_refl _)] at this
         exact this)
        go_wp2
        go_roundw
        case rel=>exact⟨i+1,m,R.1,E++E2,a,c,W,by omega,by go_num,rfl,zH (by rw[List.length_append,vR.out];omega),HZ2.out,zH (HL2.out.more (by have:=HSU.out;omega)),HZK2.out,jK.out,H8.out⟩
        case measure=>simp[intOf];omega
   ·obtain rfl:i=n:=by omega
    have e1:decide ((i:Int)<(i:Int))=false:=by simp
    have HB:=zH (HB2.out.trans (HS.out.below.mono HB2.out.size))
    go_wp2
    go_ret
    exact⟨rfl,HB.out⟩
end Go.Proofs.YthbbmdnfkkffjaaGreat
