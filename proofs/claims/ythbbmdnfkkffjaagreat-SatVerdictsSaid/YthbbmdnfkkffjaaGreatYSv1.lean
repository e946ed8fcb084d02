/-
  Parts of the proof, joined by program: Sv1.
-/
import Derived.Test.YthbbmdnfkkffjaaGreatY44
import Derived.Test.YthbbmdnfkkffjaaGreatY45
import Derived.Test.YthbbmdnfkkffjaaGreatY01
import Derived.Lib.Hide
set_option maxHeartbeats 8000000
set_option maxRecDepth 100000
namespace Go.Proofs.YthbbmdnfkkffjaaGreat
open Go.RowKit Go.Proofs.aC Go.Proofs.aA
open Go.Proofs.au hiding SM
theorem Ki {G:List (List Int)} {asm:List Int} {n:Nat} (hG:∀ c∈G,∀ x∈c,0<x.natAbs∧x.natAbs≤n) (hA:∀ x∈asm,0<x.natAbs∧x.natAbs≤n):Ci (G++asm.map fun x=>[x]) n=true↔∃ a:Nat→Bool,(∀ c∈G,∃ x∈c,tr a (aJ x)=true)∧∀ x∈asm,tr a (aJ x)=true:=by
 rw[Z6 (fun c hc=>by
  rcases List.mem_append.1 hc with m | m
  ·exact hG c m
  ·obtain⟨y,hy,rfl⟩:=List.mem_map.1 m;intro x hx;rw[List.mem_singleton] at hx;subst hx
   exact hA _ hy)]
 refine exists_congr fun a=>⟨fun h=>⟨fun c hc=>h c (List.mem_append_left _ hc),fun x hx=>?_⟩,fun h c hc=>?_⟩
 ·obtain⟨y,hy,ht⟩:=h [x] (List.mem_append_right _ (List.mem_map.2 ⟨x,hx,rfl⟩));rw[List.mem_singleton] at hy;subst hy;exact ht
 ·rcases List.mem_append.1 hc with m | m
  ·exact h.1 c m
  ·obtain⟨y,hy,rfl⟩:=List.mem_map.1 m;exact⟨y,by simp,h.2 y hy⟩
theorem PY {asm:List Int} {S T:aA.SM} {v e:Int} (h:Answer asm S T v e) {n:Nat} (hG:∀ c∈T.given,∀ x∈c,0<x.natAbs∧x.natAbs≤n) (hA:∀ x∈asm,0<x.natAbs∧x.natAbs≤n):(v=1∧e=0∧Ci (T.given++asm.map fun x=>[x]) n=true)∨(v=2∧e=0∧Ci (T.given++asm.map fun x=>[x]) n=false)∨(v=0∧((e=131∧T.learned.length=T.conf)∨(e=111∧T.most<T.words+n+2))):=by
 rcases h.out with ⟨p,q,_,_,_,k,k2⟩ | ⟨p,q,_,k,_,k2⟩ | ⟨p,_,_,q⟩
 ·refine .inl ⟨p,q,(Ki hG hA).2 ⟨_,?_,k2⟩⟩;rw[h.given];exact k
 ·refine .inr (.inl ⟨p,q,?_⟩);rw[←Bool.not_eq_true,Ki hG hA]
  rintro⟨a,h1,h2⟩
  rw[h.given] at h1;obtain⟨y,hy,ht⟩:=k2 a h1;rw[h2 y (k.subset hy)] at ht
  cases ht
 ·refine .inr (.inr ⟨p,?_⟩);rcases q with q | ⟨q,_,d,r,nd,vd⟩
  ·exact .inl q
  ·refine .inr ⟨q,?_⟩
   have:=yV (n:=n) nd fun x hx=>by
    have:=vd (fun v=>0<v∧v≤n) (by rw[h.given] at hG;exact hG) x hx;exact⟨this.1,this.2⟩
   omega
theorem Dl (words conflicts:Int) (A:Option Addr) (n cap:Nat) (l:List Stp) (w:World) (hr:Uh w A n l) :
  Calls Tryz.prog 14 #[.int .i64 words,.int .i64 conflicts,.slice A n cap] w fun e w'=>e=.returned (.bool true)∧Below w.heap.size w w':=by
 have HR:=zH hr;clear hr
 go_enter Tryz.func14,Tryz.ntmps14
 go_wp2_with fail
 refine (rD w).mono ?_
 rintro e w1 ⟨rfl,hb1⟩
 have HB1:=zH hb1;have HL:=zH (rE A n cap l 9 w1 (HR.out.grow hb1) (by omega) (by omega));clear hb1
 go_wp2_with fail
 refine HL.out.mono ?_
 rintro e w2 ⟨b,rfl,hb2,Bu⟩
 have HB2:=zH (HB1.out.trans (hb2.mono HB1.out.size));clear hb2 HL HB1
 cases b with
 | false =>
  go_wp2
  go_ret
  exact⟨rfl,HB2.out⟩
 | true =>
  have yY:=Bu rfl;have hn:n≤120:=by have:=yY.n;rw[HR.out.len] at this;exact this
  have Db:=zH yY;have HR2:=zH (HR.out.grow HB2.out);clear Bu yY
  go_wp2_with fail
  refine (lC words conflicts w2).mono ?_
  rintro e w3 ⟨q,rfl,h3⟩
  have H3:=zH h3;clear h3;obtain⟨mN,hmN⟩:∃ k:Nat,(min (max words 1) 262144).toNat=k:=⟨_,rfl⟩;obtain⟨cN,hcN⟩:∃ k:Nat,(min (max conflicts 1) 2000).toNat=k:=⟨_,rfl⟩;have hroom:min (max words 1) 262144=(mN:Int):=by omega
  have hbound:min (max conflicts 1) 2000=(cN:Int):=by omega
  have hmb:mN≤262144∧cN≤2000:=by omega
  have HMC:=zH (show (aA.SM.new words conflicts).most=mN∧(aA.SM.new words conflicts).conf=cN from⟨hmN,hcN⟩);clear hmN hcN
  go_wp2
  clear hroom hbound
  go_loopw [10,11] (fun v10 v11 wr=>∃ (i m:Nat) (S:aA.SM) (a:Option Nat) (c:Nat) (W:vk),i≤n∧m≤i∧v11=.int .i64 i∧v10=.slice (a.map fun b=>⟨b,0,none⟩) m c∧Hid (Zs i S)∧Hid (∀ c∈S.given,∀ x∈c,x.natAbs≤9)∧Hid (S.most=mN∧S.conf=cN)∧Hid (W.length=m)∧Hid (W.map (fun x=>x.2.2)=S.given)∧Hid (bL w2.heap.size w2 wr q S (star (bR 27 a c W) emp))) (fun _ v11 _=>n-(intOf v11).toNat)
  case atStart=>exact⟨0,0,aA.SM.new words conflicts,none,0,[],Nat.zero_le _,Nat.zero_le _,rfl,rfl,(BL words conflicts).1,zH (fun c hc=>by cases hc),HMC,zH rfl,zH rfl,H3.out.frame (by rw[nI,iA])⟩
  case round =>
   clear H3;obtain⟨i,m,S,a,c,W,hi,hmi,rfl,rfl,HZ,Z8,HM,jK,Kh,HS⟩:=hrel
   by_cases hin:i<n
   ·have e1:decide ((i:Int)<(n:Int))=true:=by simp;omega
    obtain⟨ab,ao,rfl,hc⟩:=HR2.out.cells (by omega);obtain⟨LM,Aj,cj,dd1,pI⟩:=hc i hin;have d0:=(HS.out.below.cell (World.block_lt_of_cell? w2 _ LM)).trans LM;have d1:=(HS.out.below.cell (World.block_lt_of_cell? w2 _ dd1)).trans dd1;obtain⟨s,hs⟩:∃ s,gs l i=s:=⟨_,rfl⟩;have hsl:s∈l:=by rw[←hs,J8 _ _ (by rw[HR.out.len];exact hin)];exact List.getElem_mem _
    have hiv:=Db.out.vars s hsl
    have hls:s.2.length≤500:=by
     have h1:=jJ l (j:=i) (by rw[HR.out.len];exact hin);have h2:=nM l (show i+1≤l.length by rw[HR.out.len];omega);have h3:=Db.out.sum;rw[hs] at h1;omega
    have hsu:qG l (i+1)=qG l i+s.2.length:=by rw[←hs];exact jJ l (by rw[HR.out.len];exact hin)
    rw[hs] at d0 d1 dd1 pI;obtain⟨ln,hln⟩:∃ ln,s.2.length=ln:=⟨_,rfl⟩;rw[hln] at d1 hls dd1 pI;have tZ:=zH pI;have HD1:=zH dd1;have V5:=zH hiv;have HSU:=zH hsu;have fP:=zH hln;have p0:(0:Int)≤(i:Int):=by omega
    have p1:(i:Int)<(n:Int):=by omega
    clear hc hs hsl hiv hln LM dd1 pI hsu
    by_cases hx:s.1<2
    ·have e2:decide (s.1<2)=true:=by simpa using hx
     have NG:=zH (dV HS.out);obtain⟨wd,hwd⟩:∃ k,S.words=k:=⟨_,rfl⟩;have hwdb:wd≤262144:=by have:=HZ.out.ze.ex.wm;have:=HM.out.1;omega
     rw[hwd] at NG;have Ik:=zH hwd;obtain⟨a1,a2⟩:=rF HZ.out s.2;have HAD:=zH (lD Aj ln cj s.2 HS.out (tZ.out.grow HS.out.below) (by omega) a1);obtain⟨R,hR⟩:∃ R,fU S s.2=R:=⟨_,rfl⟩;rw[hR] at a2 HAD;have HZ2:=zH (a2.zs.up (by omega));have HA2:=zH a2;clear a1 a2 hwd hR
     go_wp2_with fail
     refine NG.out.mono ?_
     rintro e w4 ⟨rfl,rfl⟩
     clear NG
     go_wp2_with fail
     refine HAD.out.mono ?_
     rintro e w5 ⟨rfl,h5⟩
     have H5:=zH h5;have d3:=(h5.below.cell (World.block_lt_of_cell? w2 _ HD1.out)).trans HD1.out;have HK:=zH (PK Aj ln cj s.2 w5 (tZ.out.grow h5.below) (by omega));clear h5 HAD d0 d1
     go_wp2_with fail
     refine HK.out.mono ?_
     rintro e w6 ⟨hk0,hk1⟩
     clear HK
     by_cases h0:dx s.2=0
     ·obtain⟨oa,oc,rfl,hst⟩:=hk0 h0;obtain⟨ol,hol⟩:∃ x,(bQ s.2).length=x:=⟨_,rfl⟩;have holb:ol≤ln:=by have:=G8 s.2;have:=fP.out;omega
      have H6:=zH (H5.out.nest hst);have HOL:=zH hol;rw[hol];unfold iB
      by_cases hr:wd+ol+2≤mN
      ·have e3:decide ((mN:Int)<(wd:Int)+(ol:Int)+2)=false:=by simp;omega
       have hR0:R.2=0:=by
        apply Classical.byContradiction;intro k;rcases (HA2.out.no k).2 with ⟨k1,k2⟩ | ⟨_,_,k2⟩
        ·exact k2 h0
        ·have:=HM.out.1;have:=Ik.out;omega
       obtain⟨_,y2,_⟩:=HA2.out.yes hR0;have e4:(R.2 != 0)=false:=by simpa using hR0
       have e5:decide (R.2=0)=true:=by simpa using hR0
       have HG:=zH y2
       have Hf:=zH (show ∀ c∈R.1.given,∀ x∈c,x.natAbs≤9 from fun c hc x hx=>by
        rw[y2] at hc;rcases List.mem_append.1 hc with k | k
        ·exact Z8.out c k x hx
        ·rw[List.mem_singleton] at k;subst k;have:=V5.out x (dA.1 hx)
         omega)
       have uf:=zH (show R.1.most=mN∧R.1.conf=cN by rw[HA2.out.cm.1,HA2.out.cm.2];exact HM.out);obtain⟨p,M,h7,hsv⟩:=H6.out;have h8:=jg (h7.st.aB (show _=star (bR 27 a c W) (star (bO 3 oa oc (bQ s.2)) (star (stars (parts p M)) (pt q 67 [.pointer (some ⟨p,0,none⟩)]))) by rw[aQ];ac_rfl)) jK.out;have H8:=zH h8;have FB:=zH hsv;have Qu:=zH h7.bA;clear hk0 hk1 h0 hst hol hR0 y2 h7 h8 hsv d3
       go_wp2_with (at_builtin;refine aO rfl _ _ 37 27 (.slice none 0 0) 24 rfl Tryz.underlying37 Tryz.jB rfl H8.out rfl (.slice (oa.map fun b=>⟨b,0,none⟩) ol oc) rfl rfl (by omega) (by simp only[maxLen];omega) ?_;intro b' c' w14 Qd;have H15:=zH Qd;clear Qd)
       have h16:=mh (F:=star (stars (parts p M)) (pt q 67 [.pointer (some ⟨p,0,none⟩)])) (ka:=oa) (kc:=oc) (l:=bQ s.2) jK.out (H15.out.aB (by rw[HOL.out];ac_rfl));have H16:=zH (show bL w2.heap.size w2 w14 q R.1 (star (bR 27 (some b') c' (W++[(oa,oc,bQ s.2)])) emp) from⟨p,M,⟨h16.aB (by rw[aQ];ac_rfl),Qu.out⟩,FB.out⟩);clear h16
       go_wp2
       go_roundw
       case rel=>exact⟨i+1,m+1,R.1,some b',c',W++[(oa,oc,bQ s.2)],by omega,by omega,by go_num,rfl,HZ2.out,Hf.out,uf.out,zH (by rw[List.length_append,jK.out];rfl),zH (by rw[List.map_append,Kh.out,HG.out];rfl),H16.out⟩
       case measure=>simp[intOf];omega
      ·have e3:decide ((mN:Int)<(wd:Int)+(ol:Int)+2)=true:=by simp;omega
       have hR0:R.2=111∧R.1=S:=by
        have hne:R.2≠0:=fun k=>by
         have h1:=(HA2.out.yes k).2.2;have h2:=HA2.out.zs.ze.ex.wm;rw[HA2.out.cm.1] at h2;have:=HM.out.1;have:=Ik.out;omega
        obtain⟨k0,k1⟩:=HA2.out.no hne;rcases k1 with ⟨_,k2⟩ | ⟨_,k2,_⟩
        ·exact absurd h0 k2
        ·exact⟨k2,k0⟩
       obtain⟨hR1,hR2⟩:=hR0;rw[hR2] at H6;rw[hR1];rw[hR2] at HZ2;have H7:=zH H6.out.drop;clear hk0 hk1 h0 hst hol hR1 hR2 d3
       go_wp2
       go_roundw
       case rel=>exact⟨i+1,m,S,a,c,W,by omega,by omega,by go_num,rfl,HZ2.out,Z8.out,HM.out,jK.out,Kh.out,H7.out⟩
       case measure=>simp[intOf];omega
     ·obtain⟨rfl,hst⟩:=hk1 h0
      have hR0:R.2=dx s.2∧R.1=S:=by
       have hne:R.2≠0:=fun k=>h0 (HA2.out.yes k).1;obtain⟨k0,k1⟩:=HA2.out.no hne;rcases k1 with ⟨k2,_⟩ | ⟨k2,_⟩
       ·exact⟨k2,k0⟩
       ·exact absurd k2 h0
      obtain⟨hR1,hR2⟩:=hR0;have H6:=zH (H5.out.nest hst).drop;rw[hR2] at H6 HZ2;rw[hR1];have e3:decide (dx s.2=0)=false:=by simpa using h0
      have e4:(dx s.2==0)=false:=by simpa using h0
      clear hk0 hk1 h0 hst hR1 hR2 d3
      go_wp2
      go_roundw
      case rel=>exact⟨i+1,m,S,a,c,W,by omega,by omega,by go_num,rfl,HZ2.out,Z8.out,HM.out,jK.out,Kh.out,H6.out⟩
      case measure=>simp[intOf];omega
    ·have e2:decide (s.1<2)=false:=by simpa using hx
     obtain⟨hb,LV⟩:∃ b,hasB s.2 0=b:=⟨_,rfl⟩
     have hall:s.2.all fC=true→hasB s.2 0=false:=fun ha=>by
      cases h0:hasB s.2 0 with
      | false=>rfl
      | true =>
       have:=bD.1 (List.all_eq_true.1 ha 0 (dO.1 h0));exact absurd rfl this.1
     have Io:s.2.all fC=true→BI S s.2:=fun ha=>(fO HZ.out (by omega) (by rw[fP.out];omega) ha).1;have Ai:=zH (jH Aj ln cj s.2 HS.out (fun w' P k=>tZ.out.grow k.below) Io);obtain⟨R,hR⟩:∃ R,bK S s.2=R:=⟨_,rfl⟩;rw[hR] at Ai;have HRR:=zH hR;have P7:=zH LV;have Dk:=zH hall;clear hall Io hR
     go_wp2_with fail
     refine Ai.out.mono ?_
     rintro e w6 ⟨rfl,h6⟩
     have H6:=zH h6;have d3:=(h6.below.cell (World.block_lt_of_cell? w2 _ HD1.out)).trans HD1.out;have J7:=zH (sJ Aj ln cj s.2 0 w6 (tZ.out.grow h6.below));rw[LV] at J7;clear h6 Ai d0 d1 LV
     go_wp2_with fail
     refine J7.out.mono ?_
     rintro e w7 ⟨rfl,rfl⟩
     clear J7
     cases hb with
     | true =>
      have hne:R=(S,0,130):=by
       have h1:=HRR.out;unfold bK at h1;rw[if_neg (fun ha=>by have:=Dk.out ha;rw[P7.out] at this;cases this)] at h1;rw[←h1]
      have he:R.2.2=130:=by rw[hne]
      rw[he];have tL:=zH hne;have HZ2:=zH (HZ.out.up (by omega));clear hne he d3
      go_wp2
      go_roundw
      case rel=>exact⟨i+1,m,S,a,c,W,by omega,by omega,by go_num,rfl,HZ2.out,Z8.out,HM.out,jK.out,Kh.out,by have:=H6.out;rw[tL.out] at this;exact this⟩
      case measure=>simp[intOf];omega
     | false =>
      obtain⟨_,a2,a3⟩:=fO HZ.out (by omega) (xs:=s.2) (by rw[fP.out];omega) (lH (by omega) V5.out P7.out);rw[HRR.out] at a2 a3;have HZ2:=zH a2;have HA:=zH a3;have hgs:∀ c∈R.1.given,∀ x∈c,0<x.natAbs∧x.natAbs≤9:=fun c hc x hx=>⟨((a2.ze.gs c hc).2 x hx).1,Z8.out c (by rw[←a3.given];exact hc) x hx⟩
      have hga:∀ x∈s.2,0<x.natAbs∧x.natAbs≤9:=fun x hx=>by
       have h1:=bD.1 (List.all_eq_true.1 (lH (by omega) V5.out P7.out) x hx);have h2:=V5.out x hx;omega
      have Hf:=zH (show ∀ c∈R.1.given,∀ x∈c,x.natAbs≤9 by rw[a3.given];exact Z8.out);have uf:=zH (show R.1.most=mN∧R.1.conf=cN by rw[a3.cm.1,a3.cm.2];exact HM.out);have PZ:=zH (show W.map (fun x=>x.2.2)=R.1.given by rw[a3.given];exact Kh.out);have hvc:=PY a3 hgs hga;obtain⟨ai8,afG⟩:=a3.short a2;obtain⟨ll,hll⟩:∃ k,R.1.learned.length=k:=⟨_,rfl⟩;obtain⟨wd,hwd⟩:∃ k,R.1.words=k:=⟨_,rfl⟩;have hlb:ll≤cN:=by have:=a3.lc;have:=uf.out.2;omega
      have hwb:wd≤mN:=by have:=a2.ze.ex.wm;have:=uf.out.1;omega
      have Jh:=zH (gM H6.out (fun c hc=>by have:=afG c hc;omega) (by omega));have HWO:=zH (dV H6.out);rw[hwd] at HWO;have LU:=zH hll;clear a2 a3
      have hgb:∀ c∈R.1.given,c.length≤65537:=fun c hc=>by
       obtain⟨k1,k2⟩:=HZ2.out.ze.gs c hc;exact (show Gc c from⟨k1,fun x hx=>⟨(k2 x hx).1,(k2 x hx).2.1⟩⟩).len
      have HGB:=zH hgb;have HGS:=zH hgs;have HGA:=zH hga;have Ws:=zH (And.intro ai8 afG);have Ik:=zH hwd
      have aad:R.2.2=131→ll=cN:=fun k=>by
       rcases hvc with ⟨_,q,_⟩ | ⟨_,q,_⟩ | ⟨_,⟨_,q⟩ | ⟨q,_⟩⟩
       ·omega
       ·omega
       ·have:=uf.out.2;omega
       ·omega
      have aae:R.2.2=111→mN<wd+9+2:=fun k=>by
       rcases hvc with ⟨_,q,_⟩ | ⟨_,q,_⟩ | ⟨_,⟨q,_⟩ | ⟨_,q⟩⟩
       ·omega
       ·omega
       ·omega
       ·have:=uf.out.1;omega
      have hvd:(R.2.1=1∧R.2.2=0∧Ci (R.1.given++s.2.map fun x=>[x]) 9=true)∨(R.2.1=2∧R.2.2=0∧Ci (R.1.given++s.2.map fun x=>[x]) 9=false)∨(R.2.1=0∧R.2.2=131)∨(R.2.1=0∧R.2.2=111):=by
       rcases hvc with q | q | ⟨p,⟨q,_⟩ | ⟨q,_⟩⟩
       ·exact .inl q
       ·exact .inr (.inl q)
       ·exact .inr (.inr (.inl ⟨p,q⟩))
       ·exact .inr (.inr (.inr ⟨p,q⟩))
      clear hgb hgs hga hvc ai8 afG hwd hll Jh HWO;rcases hvd with ⟨hv,he,hc⟩ | ⟨hv,he,hc⟩ | ⟨hv,he⟩ | ⟨hv,he⟩
      ·clear aad aae;rw[hv,he];have hcv:Ci (R.1.given++s.2.map fun x=>[x]) 9=true:=hc;obtain⟨X,kx⟩:=H6.out.stF
       have hrd:=pF (kx.aB (gJ _ _ _)) (fun y hy=>by
        have hm:y.2.2∈R.1.given:=by rw[←PZ.out];exact List.mem_map.2 ⟨y,hy,rfl⟩
        have:=HGB.out _ hm
        omega) (by rw[jK.out];omega)
       rw[jK.out,PZ.out] at hrd;have hcn:=PU (a.map fun b=>⟨b,0,none⟩) Aj m c ln cj R.1.given s.2 9 w6 hrd (tZ.out.grow H6.out.below) (fun c hc x hx=>by have:=HGS.out c hc x hx;omega) (fun x hx=>by have:=HGA.out x hx;omega) (fun c hc=>by have:=HGB.out c hc;omega) (by omega) (by omega) (by omega);rw[hcv] at hcn;have KL:=zH hcn;clear hc hcv kx hrd hcn hv he
       go_wp2_with fail
       refine KL.out.mono ?_
       rintro e w7 ⟨rfl,hb7⟩
       have H7:=zH (H6.out.grow hb7);clear hb7 KL d3;have Hl:=zH (gM H7.out (fun c hc=>by have:=Ws.out.2 c hc;omega) (by have:=Ws.out.1;omega))
       go_wp2_with fail
       refine Hl.out.mono ?_
       rintro e w8 ⟨a8,c8,W8,rfl,Ho,Hq⟩
       have hl8:W8.length=ll:=by rw[←LU.out,←Hq,List.length_map]
       have H8:=zH (H7.out.nest Ho).drop;rw[hl8];clear Ho Hq hl8 Hl;have P5:=zH (dV H8.out);rw[Ik.out] at P5;have f1:decide ((cN:Int)<(ll:Int))=false:=by simp;omega
       have f2:decide ((mN:Int)<(wd:Int))=false:=by simp;omega
       go_wp2_with fail
       refine P5.out.mono ?_
       rintro e w8b ⟨rfl,rfl⟩
       go_wp2
       go_roundw
       case rel=>exact⟨i+1,m,R.1,a,c,W,by omega,by omega,by go_num,rfl,HZ2.out,Hf.out,uf.out,jK.out,PZ.out,H8.out⟩
       case measure=>simp[intOf];omega
      ·clear aad aae;rw[hv,he];have hcv:Ci (R.1.given++s.2.map fun x=>[x]) 9=false:=hc;obtain⟨X,kx⟩:=H6.out.stF
       have hrd:=pF (kx.aB (gJ _ _ _)) (fun y hy=>by
        have hm:y.2.2∈R.1.given:=by rw[←PZ.out];exact List.mem_map.2 ⟨y,hy,rfl⟩
        have:=HGB.out _ hm
        omega) (by rw[jK.out];omega)
       rw[jK.out,PZ.out] at hrd;have hcn:=PU (a.map fun b=>⟨b,0,none⟩) Aj m c ln cj R.1.given s.2 9 w6 hrd (tZ.out.grow H6.out.below) (fun c hc x hx=>by have:=HGS.out c hc x hx;omega) (fun x hx=>by have:=HGA.out x hx;omega) (fun c hc=>by have:=HGB.out c hc;omega) (by omega) (by omega) (by omega);rw[hcv] at hcn;have KL:=zH hcn;clear hc hcv kx hrd hcn hv he
       go_wp2_with fail
       refine KL.out.mono ?_
       rintro e w7 ⟨rfl,hb7⟩
       have H7:=zH (H6.out.grow hb7);clear hb7 KL d3;have Hl:=zH (gM H7.out (fun c hc=>by have:=Ws.out.2 c hc;omega) (by have:=Ws.out.1;omega))
       go_wp2_with fail
       refine Hl.out.mono ?_
       rintro e w8 ⟨a8,c8,W8,rfl,Ho,Hq⟩
       have hl8:W8.length=ll:=by rw[←LU.out,←Hq,List.length_map]
       have H8:=zH (H7.out.nest Ho).drop;rw[hl8];clear Ho Hq hl8 Hl;have P5:=zH (dV H8.out);rw[Ik.out] at P5;have f1:decide ((cN:Int)<(ll:Int))=false:=by simp;omega
       have f2:decide ((mN:Int)<(wd:Int))=false:=by simp;omega
       go_wp2_with fail
       refine P5.out.mono ?_
       rintro e w8b ⟨rfl,rfl⟩
       go_wp2
       go_roundw
       case rel=>exact⟨i+1,m,R.1,a,c,W,by omega,by omega,by go_num,rfl,HZ2.out,Hf.out,uf.out,jK.out,PZ.out,H8.out⟩
       case measure=>simp[intOf];omega
      ·have hlc:=aad he;clear aad aae;rw[hv,he];have e3:((ll:Int) != (cN:Int))=false:=by simp;omega
       have e4:decide ((ll:Int)=(cN:Int))=true:=by simp;omega
       clear hv he d3;have Hl:=zH (gM H6.out (fun c hc=>by have:=Ws.out.2 c hc;omega) (by have:=Ws.out.1;omega))
       go_wp2_with fail
       refine Hl.out.mono ?_
       rintro e w8 ⟨a8,c8,W8,rfl,Ho,Hq⟩
       have hl8:W8.length=ll:=by rw[←LU.out,←Hq,List.length_map]
       have H8:=zH (H6.out.nest Ho).drop;rw[hl8];clear Ho Hq hl8 Hl;have aja:=zH (gM H8.out (fun c hc=>by have:=Ws.out.2 c hc;omega) (by have:=Ws.out.1;omega))
       go_wp2_with fail
       refine aja.out.mono ?_
       rintro e w9 ⟨a9,c9,W9,rfl,VX,ajb⟩
       have hl9:W9.length=ll:=by rw[←LU.out,←ajb,List.length_map]
       have H9:=zH (H8.out.nest VX).drop;rw[hl9];clear VX ajb hl9 aja;have ajc:=zH (dV H9.out);rw[Ik.out] at ajc;have f1:decide ((cN:Int)<(ll:Int))=false:=by simp;omega
       have f2:decide ((mN:Int)<(wd:Int))=false:=by simp;omega
       go_wp2_with fail
       refine ajc.out.mono ?_
       rintro e w9b ⟨rfl,rfl⟩
       go_wp2
       go_roundw
       case rel=>exact⟨i+1,m,R.1,a,c,W,by omega,by omega,by go_num,rfl,HZ2.out,Hf.out,uf.out,jK.out,PZ.out,H9.out⟩
       case measure=>simp[intOf];omega
      ·have hlc:=aae he;clear aad aae;rw[hv,he];have e3:decide ((wd:Int)+9+2≤(mN:Int))=false:=by simp;omega
       have ajd:=zH (dV H6.out);rw[Ik.out] at ajd;clear hv he d3
       go_wp2_with fail
       refine ajd.out.mono ?_
       rintro e w7 ⟨rfl,rfl⟩
       have Hl:=zH (gM H6.out (fun c hc=>by have:=Ws.out.2 c hc;omega) (by have:=Ws.out.1;omega))
       go_wp2_with fail
       refine Hl.out.mono ?_
       rintro e w8 ⟨a8,c8,W8,rfl,Ho,Hq⟩
       have hl8:W8.length=ll:=by rw[←LU.out,←Hq,List.length_map]
       have H8:=zH (H6.out.nest Ho).drop;rw[hl8];clear Ho Hq hl8 Hl;have P5:=zH (dV H8.out);rw[Ik.out] at P5;have f1:decide ((cN:Int)<(ll:Int))=false:=by simp;omega
       have f2:decide ((mN:Int)<(wd:Int))=false:=by simp;omega
       go_wp2_with fail
       refine P5.out.mono ?_
       rintro e w8b ⟨rfl,rfl⟩
       go_wp2
       go_roundw
       case rel=>exact⟨i+1,m,R.1,a,c,W,by omega,by omega,by go_num,rfl,HZ2.out,Hf.out,uf.out,jK.out,PZ.out,H8.out⟩
       case measure=>simp[intOf];omega
   ·obtain rfl:i=n:=by omega
    have e1:decide ((i:Int)<(i:Int))=false:=by simp
    have hgb:∀ c∈S.given,c.length≤65537:=fun c hc=>by
     obtain⟨k1,k2⟩:=HZ.out.ze.gs c hc;exact (show Gc c from⟨k1,fun x hx=>⟨(k2 x hx).1,(k2 x hx).2.1⟩⟩).len
    have hgl:S.given.length=m:=by rw[←Kh.out,List.length_map,jK.out]
    have ZH:=zH (HS.out.vG S.given m rfl hgl (fun c hc=>by have:=hgb c hc;omega) (by omega));have HGB:=zH hgb;clear hgb hgl
    go_wp2_with fail
    refine ZH.out.mono ?_
    rintro e w9 ⟨ga,gc,rfl,h9,hr9⟩
    have HB:=zH (HB2.out.trans (h9.below.mono HB2.out.size));obtain⟨X,kx⟩:=h9.stF
    have hrd:=pF (kx.aB (gJ _ _ _)) (fun y hy=>by
     have hm:y.2.2∈S.given:=by rw[←Kh.out];exact List.mem_map.2 ⟨y,hy,rfl⟩
     have:=HGB.out _ hm
     omega) (by rw[jK.out];omega)
    rw[jK.out,Kh.out] at hrd;have hla:=VL _ (a.map fun b=>⟨b,0,none⟩) m gc m c S.given S.given w9 hr9 hrd;rw[T9.2 rfl] at hla;have U4:=zH hla;clear h9 hr9 kx hrd hla ZH
    go_wp2_with fail
    refine U4.out.mono ?_
    rintro e w10 ⟨rfl,aje⟩
    have Hw:=zH (HB.out.trans ((aje.below _).mono HB.out.size));clear aje
    go_wp2
    go_ret
    exact⟨rfl,Hw.out⟩
end Go.Proofs.YthbbmdnfkkffjaaGreat
