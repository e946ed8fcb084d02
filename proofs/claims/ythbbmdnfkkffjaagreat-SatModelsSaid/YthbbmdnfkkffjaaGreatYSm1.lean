/-
  Parts of the proof, joined by program: Sm1.
-/
import Derived.Test.YthbbmdnfkkffjaaGreatY44
import Derived.Test.YthbbmdnfkkffjaaGreatY01
import Derived.Lib.Hide
set_option maxHeartbeats 8000000
set_option maxRecDepth 100000
namespace Go.Proofs.YthbbmdnfkkffjaaGreat
open Go.RowKit Go.Proofs.aC Go.Proofs.aA
open Go.Proofs.au hiding SM
def acy (m:List Bool) (x:Int):Bool:=decide (0<max x (-x))&&decide (max x (-x)<m.length)&&gB m (max x (-x)).toNat
theorem acz (m:List Bool) {x:Int} (h:0<x.natAbs):acy m x=gB m x.natAbs:=by
 have e:max x (-x)=(x.natAbs:Int):=by omega
 unfold acy;rw[e];have e1:decide ((0:Int)<(x.natAbs:Int))=true:=by simp;omega
 rw[e1,Int.toNat_natCast,Bool.true_and]
 by_cases hl:x.natAbs<m.length
 ·have:decide ((x.natAbs:Int)<(m.length:Int))=true:=by simpa using hl
  rw[this,Bool.true_and]
 ·have:decide ((x.natAbs:Int)<(m.length:Int))=false:=by simp;omega
  rw[this,Bool.false_and];unfold gB;rw[List.getD_eq_getElem?_getD,List.getElem?_eq_none (by omega)];rfl
def AX (m:List Bool) (x:Int):Bool:=acy m x==decide (0<x)
theorem V6 {asm:List Int} {S T:aA.SM} {e:Int} (h:Answer asm S T 1 e) {K:Nat} (hz:Zs K T) (ha:∀ x∈asm,0<x.natAbs):∀ c∈T.given++asm.map (fun a=>[a]),c.any (AX T.model)=true:=fun c hc=>by
 have hout:jP (gB T.model) S∧∀ x∈asm,tr (gB T.model) (aJ x)=true:=by
  rcases h.out with ⟨_,_,_,_,_,k,k2⟩ | ⟨k,_⟩ | ⟨k,_⟩
  ·exact⟨k,k2⟩
  ·omega
  ·omega
 have one:∀ x,0<x.natAbs→tr (gB T.model) (aJ x)=true→AX T.model x=true:=fun x hx ht=>by
  unfold AX;rw[acz _ hx,(vY _ hx).1 ht];simp
 rw[List.any_eq_true];rcases List.mem_append.1 hc with k | k
 ·rw[h.given] at k;obtain⟨x,hx,ht⟩:=hout.1 c k;exact⟨x,hx,one x ((hz.ze.gs c (by rw[h.given];exact k)).2 x hx).1 ht⟩
 ·obtain⟨a,hm,rfl⟩:=List.mem_map.1 k;exact⟨a,by simp,one a (ha a hm) (hout.2 a hm)⟩
theorem Z9 {f:Int→Bool} (c:List Int) {j:Nat} (h:j<c.length):(c.take (j+1)).any f=((c.take j).any f||f (gi c j)):=by
 rw[gV c j h,List.any_append];simp
theorem II (A:Option Addr) (n cap:Nat) (l:List Stp) (w:World) (hr:Uh w A n l) :
  Calls Tryz.prog 3 #[.slice A n cap] w fun e w'=>e=.returned (.bool true)∧Below w.heap.size w w':=by
 have HR:=zH hr;clear hr
 go_enter Tryz.func3,Tryz.ntmps3
 go_wp2_with fail
 refine (rD w).mono ?_
 rintro e w1 ⟨rfl,hb1⟩
 have HB1:=zH hb1;have HL:=zH (rE A n cap l 40 w1 (HR.out.grow hb1) (by omega) (by omega));clear hb1
 go_wp2_with fail
 refine HL.out.mono ?_
 rintro e w2 ⟨b,rfl,hb2,Bu⟩
 have HB2:=zH (HB1.out.trans (hb2.mono HB1.out.size));clear hb2 HL HB1
 cases b with
 | false =>
  go_wp2
  go_ret
  exact⟨rfl,HB2.out⟩
 | true =>
  have yY:=Bu rfl;have hn:n≤120:=by have:=yY.n;rw[HR.out.len] at this;exact this
  have Db:=zH yY;have HR2:=zH (HR.out.grow HB2.out);clear Bu yY
  go_wp2_with fail
  refine (lC 262144 2000 w2).mono ?_
  rintro e w3 ⟨q,rfl,h3⟩
  have H3:=zH h3;clear h3
  go_wp2
  go_loopw [4] (fun v4 wr=>∃ (i:Nat) (S:aA.SM),i≤n∧v4=.int .i64 i∧Hid (Zs i S)∧Hid (bL w2.heap.size w2 wr q S emp)) (fun v4 _=>n-(intOf v4).toNat)
  case atStart=>exact⟨0,aA.SM.new 262144 2000,Nat.zero_le _,rfl,(BL 262144 2000).1,H3.out⟩
  case round =>
   clear H3;obtain⟨i,S,hi,rfl,HZ,HS⟩:=hrel
   by_cases hin:i<n
   ·have e1:decide ((i:Int)<(n:Int))=true:=by simp;omega
    obtain⟨ab,ao,rfl,hc⟩:=HR2.out.cells (by omega);obtain⟨LM,Aj,cj,dd1,pI⟩:=hc i hin;have d0:=(HS.out.below.cell (World.block_lt_of_cell? w2 _ LM)).trans LM;have d1:=(HS.out.below.cell (World.block_lt_of_cell? w2 _ dd1)).trans dd1;obtain⟨s,hs⟩:∃ s,gs l i=s:=⟨_,rfl⟩;have hsl:s∈l:=by rw[←hs,J8 _ _ (by rw[HR.out.len];exact hin)];exact List.getElem_mem _
    have hiv:=Db.out.vars s hsl
    have hls:s.2.length≤500:=by
     have h1:=jJ l (j:=i) (by rw[HR.out.len];exact hin);have h2:=nM l (show i+1≤l.length by rw[HR.out.len];omega);have h3:=Db.out.sum;rw[hs] at h1;omega
    rw[hs] at d0 d1 dd1 pI;obtain⟨ln,hln⟩:∃ ln,s.2.length=ln:=⟨_,rfl⟩;rw[hln] at d1 hls dd1 pI;have tZ:=zH pI;have HD1:=zH dd1;have V5:=zH hiv;have fP:=zH hln;have p0:(0:Int)≤(i:Int):=by omega
    have p1:(i:Int)<(n:Int):=by omega
    clear hc hs hsl hiv hln LM dd1 pI
    by_cases hx:s.1<2
    ·have e2:decide (s.1<2)=true:=by simpa using hx
     obtain⟨a1,a2⟩:=rF HZ.out s.2;have HAD:=zH (lD Aj ln cj s.2 HS.out (tZ.out.grow HS.out.below) (by omega) a1);have HZ2:=zH (a2.zs.up (by omega));clear a1 a2
     go_wp2_with fail
     refine HAD.out.mono ?_
     rintro e w5 ⟨rfl,h5⟩
     have H5:=zH h5;clear h5 HAD d0 d1
     go_wp2
     go_roundw
     case rel=>exact⟨i+1,_,by omega,by go_num,HZ2.out,H5.out⟩
     case measure=>simp[intOf];omega
    ·have e2:decide (s.1<2)=false:=by simpa using hx
     obtain⟨hb,LV⟩:∃ b,hasB s.2 0=b:=⟨_,rfl⟩
     have hall:s.2.all fC=true→hasB s.2 0=false:=fun ha=>by
      cases h0:hasB s.2 0 with
      | false=>rfl
      | true =>
       have:=bD.1 (List.all_eq_true.1 ha 0 (dO.1 h0));exact absurd rfl this.1
     have Io:s.2.all fC=true→BI S s.2:=fun ha=>(fO HZ.out (by omega) (by rw[fP.out];omega) ha).1;have Ai:=zH (jH Aj ln cj s.2 HS.out (fun w' P k=>tZ.out.grow k.below) Io);obtain⟨R,hR⟩:∃ R,bK S s.2=R:=⟨_,rfl⟩;rw[hR] at Ai;have HRR:=zH hR;have P7:=zH LV;have Dk:=zH hall;clear hall Io hR
     go_wp2_with fail
     refine Ai.out.mono ?_
     rintro e w6 ⟨rfl,h6⟩
     have H6:=zH h6;have d3:=(h6.below.cell (World.block_lt_of_cell? w2 _ HD1.out)).trans HD1.out;have J7:=zH (sJ Aj ln cj s.2 0 w6 (tZ.out.grow h6.below));rw[LV] at J7;clear h6 Ai d0 d1 LV
     go_wp2_with fail
     refine J7.out.mono ?_
     rintro e w7 ⟨rfl,rfl⟩
     clear J7
     cases hb with
     | true =>
      have hne:R.1=S:=by
       have h1:=HRR.out;unfold bK at h1;rw[if_neg (fun ha=>by have:=Dk.out ha;rw[P7.out] at this;cases this)] at h1;rw[←h1]
      have tL:=zH hne;have HZ2:=zH (HZ.out.up (by omega));clear hne d3
      go_wp2
      go_roundw
      case rel=>exact⟨i+1,S,by omega,by go_num,HZ2.out,by have:=H6.out;rw[tL.out] at this;exact this⟩
      case measure=>simp[intOf];omega
     | false =>
      obtain⟨_,a2,a3⟩:=fO HZ.out (by omega) (xs:=s.2) (by rw[fP.out];omega) (lH (by omega) V5.out P7.out);rw[HRR.out] at a2 a3;have HZ2:=zH a2;have HA:=zH a3;clear a2 a3
      by_cases hv:R.2.1=1
      ·have e3:(R.2.1 != 1)=false:=by simpa using hv
       have e4:decide (R.2.1=1)=true:=by simpa using hv
       have hout:=HA.out;rw[hv] at hout
       have hpos:∀ x∈s.2,0<x.natAbs:=fun x hx=>by
        have:=bD.1 (List.all_eq_true.1 (lH (by omega) V5.out P7.out) x hx);omega
       have hrt:=V6 hout HZ2.out hpos
       have hcore:R.1.core=[]:=by
        rcases hout.out with ⟨_,_,k,_⟩ | ⟨k,_⟩ | ⟨k,_⟩
        ·exact k
        ·omega
        ·omega
       have hml:R.1.model.length≤65537:=by
        rcases hout.out with ⟨_,_,_,k,_⟩ | ⟨k,_⟩ | ⟨k,_⟩
        ·have:=HZ2.out.vs;omega
        ·omega
        ·omega
       have hgb:∀ c∈R.1.given,c.length≤65537∧∀ x∈c,x.natAbs≤65536:=fun c hc=>by
        obtain⟨k1,k2⟩:=HZ2.out.ze.gs c hc;exact⟨(show Gc c from⟨k1,fun x hx=>⟨(k2 x hx).1,(k2 x hx).2.1⟩⟩).len,fun x hx=>(k2 x hx).2.1⟩
       have hgl:R.1.given.length≤500000:=by have:=HZ2.out.ze.gw;have:=HZ2.out.ze.ex.words;omega
       obtain⟨D,hD⟩:∃ D,R.1.given++s.2.map (fun a=>[a])=D:=⟨_,rfl⟩;rw[hD] at hrt
       have hdb:∀ c∈D,c.length≤65537∧∀ x∈c,x.natAbs≤65536:=fun c hc=>by
        rw[←hD] at hc;rcases List.mem_append.1 hc with k | k
        ·exact hgb c k
        ·obtain⟨a,hm,rfl⟩:=List.mem_map.1 k;have:=V5.out a hm;exact⟨by simp,fun x hx=>by rw[List.mem_singleton] at hx;subst hx;omega⟩
       have HRT:=zH hrt;have HDB:=zH hdb;have HDD:=zH hD;have Wt:=zH hcore;have KA:=zH hml;have HC0:=zH (H6.out.PI [] 0 hcore rfl (by omega));clear hout hpos hrt hcore hml hdb hD d3 hv
       go_wp2_with fail
       refine HC0.out.mono ?_
       rintro e w8 ⟨xa,xc,rfl,h8⟩
       have H8:=zH h8.drop;clear h8 HC0;have HV0:=zH (H8.out.lG 0 (by have:=KA.out;omega) false (by simp))
       go_wp2_with fail
       refine HV0.out.mono ?_
       rintro e w9 ⟨rfl,h9⟩
       have HV1:=zH (h9.lG (-1) (by have:=KA.out;omega) false (by simp));clear h9 HV0
       go_wp2_with fail
       refine HV1.out.mono ?_
       rintro e w10 ⟨rfl,h10⟩
       have Qp:=zH (h10.lG 1099511627776 (by have:=KA.out;omega) false (by
        have:=KA.out;have e:decide ((1099511627776:Int)<(R.1.model.length:Int))=false:=by simp;omega
        rw[e];simp))
       clear h10 HV1
       go_wp2_with fail
       refine Qp.out.mono ?_
       rintro e w11 ⟨rfl,h11⟩
       have jW:=zH (vo h11 (fun c hc=>by have:=(hgb c hc).1;omega) (by omega));have H11:=zH h11;obtain⟨g,hg⟩:∃ g,R.1.given.length=g:=⟨_,rfl⟩;rw[hg] at hgl;have HG:=zH hg;clear h11 Qp hgb hg
       go_wp2_with fail
       refine jW.out.mono ?_
       rintro e w12 ⟨a,c,W,rfl,hst,Z7⟩
       have hWl:W.length=g:=by rw[←HG.out,←Z7,List.length_map]
       have IC:=zH ((H11.out.nest hst).frame (show _=star (bR 27 a c W) emp by rw[aQ,aQ]));have Kh:=zH Z7;have jK:=zH hWl;rw[hWl];clear hst Z7 hWl jW H11 H8
       go_wp2
       go_loopw [8,9] (fun v8 v9 wq=>∃ (k m:Nat) (a:Option Nat) (c:Nat) (W:vk),k≤ln∧m=g+k∧v9=.int .i64 k∧v8=.slice (a.map fun b=>⟨b,0,none⟩) m c∧Hid (W.length=m)∧Hid (W.map (fun x=>x.2.2)=R.1.given++(s.2.take k).map (fun a=>[a]))∧Hid (bL w2.heap.size w2 wq q R.1 (star (bR 27 a c W) emp))) (fun _ v9 _=>ln-(intOf v9).toNat)
       case atStart=>exact⟨0,g,a,c,W,Nat.zero_le _,rfl,rfl,rfl,jK.out,zH (by rw[Kh.out];simp),IC.out⟩
       case round =>
        clear IC Kh jK;obtain⟨k,m,a,c,W,hk,rfl,rfl,rfl,jK,Kh,IC⟩:=hrel;have d3:=(IC.out.below.cell (World.block_lt_of_cell? w2 _ HD1.out)).trans HD1.out
        by_cases hkl:k<ln
        ·have e5:decide ((k:Int)<(ln:Int))=true:=by simp;omega
         obtain⟨rb,ro,rfl,hcc⟩:=(tZ.out.grow IC.out.below).cells (by omega);have d4:=hcc k hkl;obtain⟨x,hx⟩:∃ x,gi s.2 k=x:=⟨_,rfl⟩;rw[hx] at d4;have hkx:k<s.2.length:=by rw[fP.out];exact hkl
         have htk:(s.2.take (k+1)).map (fun a=>[a])=(s.2.take k).map (fun a=>[a])++[[x]]:=by rw[gV _ _ hkx,hx,List.map_append];rfl
         have qH:=zH htk;obtain⟨p,M,FE,hsv⟩:=IC.out.built [x] (by simp) (by simp);have QX:=jg (FE.st.aB (show _=star (bR 27 a c W) (star (bO 3 (some wr.heap.size) 1 [x]) (star (stars (parts p M)) (pt q 67 [.pointer (some ⟨p,0,none⟩)]))) by rw[aQ];simp only[List.length_singleton];ac_rfl)) jK.out;have H14:=zH QX;have FB:=zH hsv;have Qu:=zH FE.bA;have UD:=zH (show (wr.alloc (Obj.cells (ints [x]).toArray 3)).heap.size=wr.heap.size+1 by simp);have k0:(0:Int)≤(k:Int):=by omega
         have k1:(k:Int)<(ln:Int):=by omega
         clear hcc hx hkx htk FE QX hsv
         go_wp2_with (at_builtin;refine aO rfl _ _ 37 27 (.slice none 0 0) 24 rfl Tryz.underlying37 Tryz.jB rfl H14.out rfl (.slice (some ⟨wr.heap.size,0,none⟩) 1 1) (by exact congrArg (fun n=>Value.slice (some (⟨n,0,none⟩:Addr)) 1 1) UD.out.symm) rfl (by omega) (by simp only[maxLen];omega) ?_;intro b' c' w14 Qd;have H15:=zH Qd;clear Qd)
         have h16:=mh (F:=star (stars (parts p M)) (pt q 67 [.pointer (some ⟨p,0,none⟩)])) (ka:=some wr.heap.size) (kc:=1) (l:=[x]) jK.out (H15.out.aB (by simp only[Option.map_some,List.length_singleton];ac_rfl));have H16:=zH (show bL w2.heap.size w2 w14 q R.1 (star (bR 27 (some b') c' (W++[(some wr.heap.size,1,[x])])) emp) from⟨p,M,⟨h16.aB (by rw[aQ];ac_rfl),Qu.out⟩,FB.out⟩);clear h16
         go_wp2
         go_roundw
         case rel=>exact⟨k+1,g+k+1,some b',c',W++[(some wr.heap.size,1,[x])],by omega,by omega,by go_num,rfl,zH (by rw[List.length_append,jK.out];rfl),zH (by rw[List.map_append,Kh.out,qH.out,List.append_assoc];rfl),H16.out⟩
         case measure=>simp[intOf];omega
        ·obtain rfl:k=ln:=by omega
         have e5:decide ((k:Int)<(k:Int))=false:=by simp
         have hwd:W.map (fun x=>x.2.2)=D:=by
          rw[Kh.out,List.take_of_length_le (by rw[fP.out];exact Nat.le_refl _)];exact HDD.out
         have Ik:=zH hwd;obtain⟨m,hm⟩:∃ m,g+k=m:=⟨_,rfl⟩;have hmb:m≤600000:=by omega
         rw[hm] at jK ⊢;clear hwd hm
         go_wp2
         go_loopw [10] (fun v10 wq=>∃ k2:Nat,k2≤m∧v10=.int .i64 k2∧Hid (bL w2.heap.size w2 wq q R.1 (star (bR 27 a c W) emp))) (fun v10 _=>m-(intOf v10).toNat)
         case atStart=>exact⟨0,Nat.zero_le _,rfl,IC.out⟩
         case round =>
          clear IC d3;obtain⟨k2,hk2,rfl,IC⟩:=hrel
          by_cases hkm:k2<m
          ·have e6:decide ((k2:Int)<(m:Int))=true:=by simp;omega
           have afE:∀ wz,bL w2.heap.size w2 wz q R.1 (star (bR 27 a c W) emp)→um wz (a.map fun b=>⟨b,0,none⟩) m D:=fun wz hz=>by
            obtain⟨X,kx⟩:=hz.stF
            have:=pF (kx.aB (gJ _ _ _)) (fun y hy=>by
             have hm:y.2.2∈D:=by rw[←Ik.out];exact List.mem_map.2 ⟨y,hy,rfl⟩
             have:=(HDB.out _ hm).1
             omega) (by rw[jK.out];omega)
            rw[jK.out,Ik.out] at this;exact this
           have hDl:D.length=m:=by rw[←Ik.out,List.length_map,jK.out]
           have hmem:gl D k2∈D:=by rw[jq _ _ (by rw[hDl];exact hkm)];exact List.getElem_mem _
           obtain⟨cb,co,hA8,hcc⟩:=(afE wr IC.out).cells (by omega);obtain⟨Ak,ck,d5,hrk⟩:=hcc k2 hkm;obtain⟨xs,hxs⟩:∃ xs,gl D k2=xs:=⟨_,rfl⟩;rw[hxs] at d5 hrk hmem;have hany:=HRT.out xs hmem;have afF:=HDB.out xs hmem;obtain⟨xl,hxl⟩:∃ n,xs.length=n:=⟨_,rfl⟩;rw[hxl] at d5 hrk
           have hcell:∀ wz,bL w2.heap.size w2 wz q R.1 (star (bR 27 a c W) emp)→∃ Az cz,wz.cell? ⟨cb,co+k2,none⟩=some (.slice Az xl cz)∧Rd wz Az xl xs:=fun wz hz=>by
            obtain⟨cb',co',hA9,afp⟩:=(afE wz hz).cells (by omega);rw[hA8] at hA9;simp only[Option.some.injEq,Addr.mk.injEq,and_true] at hA9;obtain⟨rfl,rfl⟩:=hA9;obtain⟨Az,cz,d6,hrz⟩:=afp k2 hkm;rw[hxs,hxl] at d6 hrz;exact⟨Az,cz,d6,hrz⟩
           have ZI:=zH hcell;have anr:=zH hany;have ant:=zH afF;have tO:=zH hxl;have hxl2:xl≤65537:=by rw[←hxl];exact afF.1
           have k0:(0:Int)≤(k2:Int):=by omega
           have k1:(k2:Int)<(m:Int):=by omega
           rw[hA8];have HA8:=zH hA8;clear afE hDl hmem hA8 hcc hrk hxs hany afF hxl hcell d5
           go_wp2
           go_loopw [11,12] (fun v11 v12 wq=>∃ (jj:Nat) (b:Bool),jj≤xl∧v12=.int .i64 jj∧v11=.bool b∧Hid (b=(xs.take jj).any (AX R.1.model))∧Hid (bL w2.heap.size w2 wq q R.1 (star (bR 27 a c W) emp))) (fun _ v12 _=>xl-(intOf v12).toNat)
           case atStart=>exact⟨0,false,Nat.zero_le _,rfl,rfl,zH (by simp),IC.out⟩
           case round =>
            clear IC;obtain⟨jj,b,hjj,rfl,rfl,Hw,IC⟩:=hrel;obtain⟨Az,cz,d6,hrz⟩:=ZI.out wr IC.out
            by_cases hjl:jj<xl
            ·have e7:decide ((jj:Int)<(xl:Int))=true:=by simp;omega
             obtain⟨zb,zo,rfl,hcz⟩:=hrz.cells (by omega);have d7:=hcz jj hjl;obtain⟨x,hx⟩:∃ x,gi xs jj=x:=⟨_,rfl⟩;rw[hx] at d7;have hjx:jj<xs.length:=by rw[tO.out];exact hjl
             have hxm:x∈xs:=by rw[←hx,dh _ _ hjx];exact List.getElem_mem _
             have hxb:=ant.out.2 x hxm;have hat:=Z9 (f:=AX R.1.model) xs hjx;rw[hx,←Hw.out] at hat
             have HAT:=zH hat
             have j0:(0:Int)≤(jj:Int):=by omega
             have j1:(jj:Int)<(xl:Int):=by omega
             have x0:-65536≤x:=by omega
             have x1:x≤65536:=by omega
             obtain⟨mx,hmx⟩:∃ mx,max x (-x)=mx:=⟨_,rfl⟩;obtain⟨vb,hvb⟩:∃ b,acy R.1.model x=b:=⟨_,rfl⟩;have hvs:=IC.out.lG mx (by have:=KA.out;omega) vb (by rw[←hmx,←hvb];rfl);have HVS:=zH hvs;have HVB:=zH hvb;clear hcz hx hjx hxm hxb hat hvb hvs hrz
             cases b with
             | true =>
              go_wp2
              go_roundw
              case rel=>exact⟨jj+1,true,by omega,by go_num,rfl,zH (by rw[HAT.out];simp),IC.out⟩
              case measure=>simp[intOf];omega
             | false =>
              go_wp2_with fail
              refine HVS.out.mono ?_
              rintro e w15 ⟨rfl,Qd⟩
              have HH:=zH Qd;clear Qd HVS
              go_wp2
              go_roundw
              case rel=>exact⟨jj+1,vb==decide (0<x),by omega,by go_num,rfl,zH (by rw[HAT.out,Bool.false_or];unfold AX;rw[HVB.out]),HH.out⟩
              case measure=>simp[intOf];omega
            ·obtain rfl:jj=xl:=by omega
             have e7:decide ((jj:Int)<(jj:Int))=false:=by simp
             have hbt:b=true:=by
              rw[Hw.out,List.take_of_length_le (by rw[tO.out];exact Nat.le_refl _)];exact anr.out
             subst hbt;clear hrz
             go_wp2
             go_roundw
             case rel=>exact⟨k2+1,by omega,by go_num,IC.out⟩
             case measure=>simp[intOf];omega
          ·obtain rfl:k2=m:=by omega
           have e6:decide ((k2:Int)<(k2:Int))=false:=by simp
           have HD:=zH IC.out.drop
           go_wp2
           go_roundw
           case rel=>exact⟨i+1,R.1,by omega,by go_num,HZ2.out,HD.out⟩
           case measure=>simp[intOf];omega
      ·have e3:(R.2.1 != 1)=true:=by simpa using hv
       have e4:decide (R.2.1=1)=false:=by simpa using hv
       have hm:R.1.model=[]:=by
        rcases HA.out.out with ⟨k,_⟩ | ⟨_,_,k,_⟩ | ⟨_,_,k,_⟩
        ·exact absurd k hv
        ·exact k
        ·exact k
       have HM:=zH hm;clear hm d3 hv
       go_wp2
       go_loopw [7] (fun v7 wq=>∃ k:Nat,k≤41∧v7=.int .i64 k∧Hid (bL w2.heap.size w2 wq q R.1 emp)) (fun v7 _=>41-(intOf v7).toNat)
       case atStart=>exact⟨1,by omega,rfl,H6.out⟩
       case round =>
        clear H6;obtain⟨k,hk,rfl,H6⟩:=hrel
        by_cases hkl:k≤40
        ·have e5:decide ((k:Int)≤40)=true:=by simp;omega
         have HV:=zH (H6.out.lG k (by rw[HM.out];simp) false (by rw[HM.out];simp[gB]))
         go_wp2_with fail
         refine HV.out.mono ?_
         rintro e w8 ⟨rfl,h8⟩
         have H8:=zH h8;clear h8 HV
         go_wp2
         go_roundw
         case rel=>exact⟨k+1,by omega,by go_num,H8.out⟩
         case measure=>simp[intOf];omega
        ·have e5:decide ((k:Int)≤40)=false:=by simp;omega
         go_wp2
         go_roundw
         case rel=>exact⟨i+1,R.1,by omega,by go_num,HZ2.out,H6.out⟩
         case measure=>simp[intOf];omega
   ·obtain rfl:i=n:=by omega
    have e1:decide ((i:Int)<(i:Int))=false:=by simp
    have HB:=zH (HB2.out.trans (HS.out.below.mono HB2.out.size))
    go_wp2
    go_ret
    exact⟨rfl,HB.out⟩
end Go.Proofs.YthbbmdnfkkffjaaGreat
