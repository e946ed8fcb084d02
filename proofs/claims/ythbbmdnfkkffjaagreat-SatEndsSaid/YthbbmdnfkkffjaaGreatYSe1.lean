/-
  Parts of the proof, joined by program: Se1.
-/
import Derived.Test.YthbbmdnfkkffjaaGreatY44
import Derived.Test.YthbbmdnfkkffjaaGreatY01
import Derived.Lib.Hide
set_option maxHeartbeats 8000000
set_option maxRecDepth 100000
namespace Go.Proofs.YthbbmdnfkkffjaaGreat
open Go.RowKit Go.Proofs.aC Go.Proofs.aA
open Go.Proofs.au hiding SM
theorem PV (A:Option Addr) (n cap:Nat) (l:List Stp) (w:World) (hr:Uh w A n l) :
  Calls Tryz.prog 5 #[.slice A n cap] w fun e w'=>e=.returned (.bool true)∧Below w.heap.size w w':=by
 have HR:=zH hr;clear hr
 go_enter Tryz.func5,Tryz.ntmps5
 go_wp2_with fail
 refine (rD w).mono ?_
 rintro e w1 ⟨rfl,hb1⟩
 have HB1:=zH hb1;have HL:=zH (rE A n cap l 6 w1 (HR.out.grow hb1) (by omega) (by omega));clear hb1
 go_wp2_with fail
 refine HL.out.mono ?_
 rintro e w2 ⟨b,rfl,hb2,Bu⟩
 have HB2:=zH (HB1.out.trans (hb2.mono HB1.out.size));clear hb2 HL HB1
 cases b with
 | false =>
  go_wp2
  go_ret
  exact⟨rfl,HB2.out⟩
 | true =>
  have yY:=Bu rfl;have hn:n≤120:=by have:=yY.n;rw[HR.out.len] at this;exact this
  have Db:=zH yY;have HR2:=zH (HR.out.grow HB2.out);clear Bu yY
  go_wp2_with fail
  refine (lC 262144 730 w2).mono ?_
  rintro e w3 ⟨q,rfl,h3⟩
  have H3:=zH h3;clear h3
  go_wp2
  go_loopw [4] (fun v4 wr=>∃ (i:Nat) (S:aA.SM),i≤n∧v4=.int .i64 i∧Hid (Zs i S)∧Hid (∃ E,IE 6 S E (qG l i+2*i))∧Hid (S.most=262144∧S.conf=730)∧Hid (bL w2.heap.size w2 wr q S emp)) (fun v4 _=>n-(intOf v4).toNat)
  case atStart=>exact⟨0,aA.SM.new 262144 730,Nat.zero_le _,rfl,(BL 262144 730).1,zH ⟨[],IE.start 6 _ _⟩,zH ⟨rfl,rfl⟩,H3.out⟩
  case round =>
   clear H3;obtain⟨i,S,hi,rfl,HZ,Z8,HM,HS⟩:=hrel
   by_cases hin:i<n
   ·have e1:decide ((i:Int)<(n:Int))=true:=by simp;omega
    obtain⟨ab,ao,rfl,hc⟩:=HR2.out.cells (by omega);obtain⟨LM,Aj,cj,dd1,pI⟩:=hc i hin;have d0:=(HS.out.below.cell (World.block_lt_of_cell? w2 _ LM)).trans LM;have d1:=(HS.out.below.cell (World.block_lt_of_cell? w2 _ dd1)).trans dd1;obtain⟨s,hs⟩:∃ s,gs l i=s:=⟨_,rfl⟩;have hsl:s∈l:=by rw[←hs,J8 _ _ (by rw[HR.out.len];exact hin)];exact List.getElem_mem _
    have hiv:=Db.out.vars s hsl
    have hls:s.2.length≤500:=by
     have h1:=jJ l (j:=i) (by rw[HR.out.len];exact hin);have h2:=nM l (show i+1≤l.length by rw[HR.out.len];omega);have h3:=Db.out.sum;rw[hs] at h1;omega
    have hsu:qG l (i+1)=qG l i+s.2.length:=by rw[←hs];exact jJ l (by rw[HR.out.len];exact hin)
    rw[hs] at d0 d1 dd1 pI;obtain⟨ln,hln⟩:∃ ln,s.2.length=ln:=⟨_,rfl⟩;rw[hln] at d1 hls dd1 pI;have tZ:=zH pI;have HD1:=zH dd1;have V5:=zH hiv;have HSU:=zH hsu;have fP:=zH hln;have p0:(0:Int)≤(i:Int):=by omega
    have p1:(i:Int)<(n:Int):=by omega
    clear hc hs hsl hiv hln LM dd1 pI hsu
    by_cases hx:s.1<2
    ·have e2:decide (s.1<2)=true:=by simpa using hx
     obtain⟨a1,a2⟩:=rF HZ.out s.2;have HAD:=zH (lD Aj ln cj s.2 HS.out (tZ.out.grow HS.out.below) (by omega) a1);have HZ2:=zH (a2.zs.up (by omega))
     have Hf:=zH (show ∃ E,IE 6 (fU S s.2).1 E (qG l (i+1)+2*(i+1)) by
      obtain⟨E,hE⟩:=Z8.out
      exact⟨E,(hE.add a2 fun x hx=>by have:=V5.out x hx;omega).more (by have:=HSU.out;have:=fP.out;omega)⟩)
     have uf:=zH (show (fU S s.2).1.most=262144∧(fU S s.2).1.conf=730 by rw[a2.cm.1,a2.cm.2];exact HM.out);clear a1 a2
     go_wp2_with fail
     refine HAD.out.mono ?_
     rintro e w5 ⟨rfl,h5⟩
     have H5:=zH h5;clear h5 HAD d0 d1
     go_wp2
     go_roundw
     case rel=>exact⟨i+1,_,by omega,by go_num,HZ2.out,Hf.out,uf.out,H5.out⟩
     case measure=>simp[intOf];omega
    ·have e2:decide (s.1<2)=false:=by simpa using hx
     obtain⟨hb,LV⟩:∃ b,hasB s.2 0=b:=⟨_,rfl⟩
     have hall:s.2.all fC=true→hasB s.2 0=false:=fun ha=>by
      cases h0:hasB s.2 0 with
      | false=>rfl
      | true =>
       have:=bD.1 (List.all_eq_true.1 ha 0 (dO.1 h0));exact absurd rfl this.1
     have Io:s.2.all fC=true→BI S s.2:=fun ha=>(fO HZ.out (by omega) (by rw[fP.out];omega) ha).1;have Ai:=zH (jH Aj ln cj s.2 HS.out (fun w' P k=>tZ.out.grow k.below) Io);obtain⟨R,hR⟩:∃ R,bK S s.2=R:=⟨_,rfl⟩;rw[hR] at Ai;have HRR:=zH hR;have P7:=zH LV;have Dk:=zH hall;clear hall Io hR
     go_wp2_with fail
     refine Ai.out.mono ?_
     rintro e w6 ⟨rfl,h6⟩
     have H6:=zH h6;have d3:=(h6.below.cell (World.block_lt_of_cell? w2 _ HD1.out)).trans HD1.out;have J7:=zH (sJ Aj ln cj s.2 0 w6 (tZ.out.grow h6.below));rw[LV] at J7;clear h6 Ai d0 d1 LV
     go_wp2_with fail
     refine J7.out.mono ?_
     rintro e w7 ⟨rfl,rfl⟩
     clear J7
     cases hb with
     | true =>
      have hne:R.1=S:=by
       have h1:=HRR.out;unfold bK at h1;rw[if_neg (fun ha=>by have:=Dk.out ha;rw[P7.out] at this;cases this)] at h1;rw[←h1]
      have tL:=zH hne;have HZ2:=zH (HZ.out.up (by omega));clear hne d3
      go_wp2
      go_roundw
      case rel=>exact⟨i+1,S,by omega,by go_num,HZ2.out,(by obtain⟨E,hE⟩:=Z8.out;exact⟨E,hE.more (by have:=HSU.out;omega)⟩),HM.out,by have:=H6.out;rw[tL.out] at this;exact this⟩
      case measure=>simp[intOf];omega
     | false =>
      obtain⟨_,a2,a3⟩:=fO HZ.out (by omega) (xs:=s.2) (by rw[fP.out];omega) (lH (by omega) V5.out P7.out);rw[HRR.out] at a2 a3;have HZ2:=zH a2;have HA:=zH a3
      have hgn:qG l i+2*i≤740:=by
       have h1:=nM l (show i≤l.length by rw[HR.out.len];omega);have h2:=Db.out.sum;omega
      have hvd:(R.2.1=1∨R.2.1=2)∧R.2.2=0:=by
       obtain⟨E,hE⟩:=Z8.out;obtain⟨m1,m2⟩:=HM.out;rcases hE.tells a3 (by rw[m1];omega) with ⟨p,q⟩ | ⟨p,q⟩ | ⟨_,_,r⟩
       ·exact⟨.inl p,q⟩
       ·exact⟨.inr p,q⟩
       ·rw[m2] at r;omega
      have Hf:=zH (show ∃ E,IE 6 R.1 E (qG l (i+1)+2*(i+1)) by
       obtain⟨E,hE⟩:=Z8.out;obtain⟨E2,k,_⟩:=hE.solve a3
       exact⟨_,k.more (by have:=HSU.out;omega)⟩)
      have uf:=zH (show R.1.most=262144∧R.1.conf=730 by rw[a3.cm.1,a3.cm.2];exact HM.out);clear a2 a3;obtain⟨hv,he⟩:=hvd;have e3:(R.2.2 != 0)=false:=by simpa using he
      have e4:decide (R.2.2=0)=true:=by simpa using he
      rcases hv with hv | hv
      ·have e5:(R.2.1 != 1)=false:=by simpa using hv
       have e6:decide (R.2.1=1)=true:=by simpa using hv
       clear hv he hgn d3
       go_wp2
       go_roundw
       case rel=>exact⟨i+1,R.1,by omega,by go_num,HZ2.out,Hf.out,uf.out,H6.out⟩
       case measure=>simp[intOf];omega
      ·have e5:(R.2.1 != 1)=true:=by rw[hv];rfl
       have e6:decide (R.2.1=1)=false:=by rw[hv];rfl
       have e7:(R.2.1 != 2)=false:=by simpa using hv
       have e8:decide (R.2.1=2)=true:=by simpa using hv
       clear hv he hgn d3
       go_wp2
       go_roundw
       case rel=>exact⟨i+1,R.1,by omega,by go_num,HZ2.out,Hf.out,uf.out,H6.out⟩
       case measure=>simp[intOf];omega
   ·obtain rfl:i=n:=by omega
    have e1:decide ((i:Int)<(i:Int))=false:=by simp
    have HB:=zH (HB2.out.trans (HS.out.below.mono HB2.out.size))
    go_wp2
    go_ret
    exact⟨rfl,HB.out⟩
end Go.Proofs.YthbbmdnfkkffjaaGreat
