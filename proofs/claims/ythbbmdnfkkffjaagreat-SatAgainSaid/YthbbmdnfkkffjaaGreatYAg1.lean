/-
  SatAgain: the law's walk: whatever the input, it returns true.
-/
import Derived.Test.YthbbmdnfkkffjaaGreatY44
import Derived.Test.YthbbmdnfkkffjaaGreatYStA
import Derived.Test.YthbbmdnfkkffjaaGreatYTwo
import Derived.Test.YthbbmdnfkkffjaaGreatYPg4
import Derived.Test.YthbbmdnfkkffjaaGreatY01
set_option maxHeartbeats 8000000
set_option maxRecDepth 100000
namespace Go.Proofs.YthbbmdnfkkffjaaGreat
open Go.RowKit Go.Proofs.aC Go.Proofs.aA
open Go.Proofs.au hiding SM
theorem Tryz.infoStepA:(Tryz.prog.info? 29).map (fun i=>(i.zero,i.size,i.bytes))=some (some (.agg #[.int .i64 0,.slice none 0 0]),2,32):=by kernel_rfl
theorem verdict_asm {asm:List Int} {S T:aA.SM} {v:Int} (h:Answer asm S T v 0):(v=1∧∃ m,jP m S∧∀ x∈asm,tr m (aJ x)=true)∨(v=2∧∀ m,jP m S→¬ ∀ x∈asm,tr m (aJ x)=true):=by
 rcases h.out with ⟨e,_,_,_,_,k,k2⟩ | ⟨e,_,_,k,_,k2⟩ | ⟨_,_,_,k⟩
 ·exact .inl ⟨e,_,k,k2⟩
 ·refine .inr ⟨e,fun m hm ha=>?_⟩;obtain⟨y,hy,ht⟩:=k2 m hm;rw[ha y (k.subset hy)] at ht
  cases ht
 ·omega
theorem verdict_same {asm:List Int} {S T S2 T2:aA.SM} {v u:Int} (h:Answer asm S T v 0) (k:Answer asm S2 T2 u 0) (hg:S2.given=S.given):v=u:=by
 have e:∀ m,jP m S2↔jP m S:=fun m=>by unfold jP;rw[hg]
 rcases verdict_asm h with ⟨p,m,q,q2⟩ | ⟨p,q⟩ <;> rcases verdict_asm k with ⟨r,n,s,s2⟩ | ⟨r,s⟩
 ·rw[p,r]
 ·exact absurd q2 (s m ((e m).2 q))
 ·exact absurd s2 (q n ((e n).1 s))
 ·rw[p,r]
theorem afA.given {K:Nat} {S:aA.SM} {xs:List Int} {R:aA.SM×Int} (a:afA K S xs R) (hm:S.words+xs.length+2≤S.most):R.1.given=if dx xs=0 then S.given++[bQ xs] else S.given:=by
 have hl:=G8 xs
 by_cases h0:dx xs=0
 ·have hR:R.2=0:=by
   apply Classical.byContradiction;intro k;rcases (a.no k).2 with ⟨k1,k2⟩ | ⟨_,_,k2⟩
   ·exact k2 h0
   ·omega
  rw[if_pos h0,(a.yes hR).2.1]
 ·have hR:R.2≠0:=fun k=>h0 (a.yes k).1;rw[if_neg h0,(a.no hR).1]
theorem satAgain_any (A0:Option Addr) (n0 cap0:Nat) (l:List Stp) (A1:Option Addr) (n1 ai5:Nat) (asm:List Int) (w:World) (hr0:Uh w A0 n0 l) (hr1:Rd w A1 n1 asm) (hc0:n0≤cap0) (hb0:n0*32≤140737488351232) :
  Calls Tryz.prog 6 #[.slice A0 n0 cap0,.slice A1 n1 ai5] w fun e w'=>e=.returned (.bool true)∧Below w.heap.size w w':=by
 have HR0:=zH hr0;have HR1:=zH hr1;clear hr0 hr1
 go_enter Tryz.func6,Tryz.ntmps6
 go_wp2_with fail
 refine (rD w).mono ?_
 rintro e w1 ⟨rfl,hb1⟩
 have HB1:=zH hb1;obtain⟨V0,hv0,ha0⟩:=(HR0.out.grow hb1).ap 29;have hl0:=HR0.out.len;have HV0:=zH hv0;have HA0:=zH ha0;have HV1:=zH (show LY w1 [.int .i64 2,.slice A1 n1 ai5] [(2,asm)] from LY.one' (HR1.out.grow hb1));clear hb1 hv0 ha0
 go_wp2_with (at_builtin;refine wpList_append_any rfl _ _ 22 29 (.agg #[.int .i64 0,.slice none 0 0]) 2 32 rfl Tryz.underlying22 Tryz.infoStepA rfl (by omega) A0 n0 n0 V0 (HA0.out.alloc _) rfl (some ⟨w1.heap.size,0,none⟩) 1 1 [.int .i64 2,.slice A1 n1 ai5] rfl rfl (cell_newA w1 _ _) (fun h=>by cases h) HV1.out.one (by omega) (by simp only[maxLen];omega) ?_;intro A6 c6 w6 h6;have H6:=zH h6;clear h6)
 have hb6:=H6.out.st.below;have HV6:=zH ((HV0.out.append HV1.out).grow hb6);have HB6:=zH (HB1.out.trans (hb6.mono HB1.out.size));have HRS:=zH (Ap.rdS H6.out HV6.out (by omega));obtain⟨L,hL⟩:∃ L,l++[(2,asm)]=L:=⟨_,rfl⟩;obtain⟨N,hN⟩:∃ N,n0+1=N:=⟨_,rfl⟩;rw[hL,hN] at HRS;rw[hN];have Db:=zH (rE A6 N c6 L 8 w6 HRS.out (by omega) (by omega));have LU:=zH hL;clear hb6 hL hN hl0
 go_wp2_with fail
 refine Db.out.mono ?_
 rintro e w7 ⟨b,rfl,hb7,Bu⟩
 have HB7:=zH (HB6.out.trans (hb7.mono HB6.out.size));clear Db hb7
 cases b with
 | false =>
  go_wp2
  go_ret
  exact⟨rfl,HB7.out⟩
 | true =>
  have yY:=Bu rfl;rw[←LU.out] at yY;have hn2:=yY.n;have hs2:=yY.sum
  have hsp:qG (l++[(2,asm)]) (l++[(2,asm)]).length=qG l l.length+asm.length:=by
   unfold qG;rw[List.take_length,List.take_length,List.map_append,List.sum_append];simp
  rw[hsp,List.length_append,List.length_singleton] at hs2;rw[List.length_append,List.length_singleton,HR0.out.len] at hn2;have hal:n1≤500:=by have:=HR1.out.len;omega
  have hn:n0≤120:=by omega
  have HSL:=zH (show qG l n0+n0≤500 by have:=HR0.out.len;rw[this] at hs2;omega);have Ig:=zH (show ∀ s∈l,PL 8 s.2 from fun s hs=>yY.vars s (List.mem_append_left _ hs));have WG:=zH (yY.vars (2,asm) (by simp));obtain⟨xa,hxa⟩:∃ b,hasB asm 0=b:=⟨_,rfl⟩;have HXA:=zH hxa;have HH2:=zH (sJ A1 n1 ai5 asm 0 w7 (HR1.out.grow HB7.out));rw[hxa] at HH2;clear Bu yY hn2 hs2 hsp hxa LU HRS HV6 H6 HV0 HV1 HA0
  go_wp2_with fail
  refine HH2.out.mono ?_
  rintro e w8 ⟨rfl,rfl⟩
  clear HH2
  cases xa with
  | true =>
   go_wp2
   go_ret
   exact⟨rfl,HB7.out⟩
  | false =>
   have Dk:=zH (lH (by omega) WG.out HXA.out);have HQ0:=zH (HR0.out.grow HB7.out);have HQ1:=zH (HR1.out.grow HB7.out)
   go_wp2_with fail
   refine (lC 262144 2000 w7).mono ?_
   rintro e w9 ⟨q,rfl,h9⟩
   have H9:=zH h9;clear h9
   go_wp2_with fail
   refine (lC 262144 2000 w9).mono ?_
   rintro e w10 ⟨r,rfl,h10⟩
   have DJ:=zH (H9.out.two h10);clear h10 H9
   go_wp2
   go_loopw [7] (fun v7 wr=>∃ (i:Nat) (S T:aA.SM) (E:List (List Nat)),i≤n0∧v7=.int .i64 i∧Hid (Zs i S)∧Hid (Zs 0 T)∧Hid (IE 8 S E (qG l i+2*i))∧Hid (IE 8 T [] (qG l i+2*i))∧Hid (S.most=262144∧T.most=262144)∧Hid (S.given=T.given)∧Hid (bL w7.heap.size w7 wr q S (star (Um r T) emp))) (fun v7 _=>n0-(intOf v7).toNat)
   case atStart=>exact⟨0,aA.SM.new 262144 2000,aA.SM.new 262144 2000,[],Nat.zero_le _,rfl,(BL 262144 2000).1,(BL 262144 2000).1,IE.start 8 _ _,IE.start 8 _ _,zH ⟨rfl,rfl⟩,zH rfl,DJ.out⟩
   case round =>
    clear DJ;obtain⟨i,S,T,E,hi,rfl,HZ,HZT,HL8,VA,HM,HG,HS⟩:=hrel
    have hsm:qG l i+2*i≤740:=by
     have h1:=nM l hi;have h2:=HSL.out;omega
    by_cases hin:i<n0
    ·have e1:decide ((i:Int)<(n0:Int))=true:=by simp;omega
     obtain⟨ab,ao,rfl,hc⟩:=HQ0.out.cells (by omega);obtain⟨LM,Aj,cj,dd1,pI⟩:=hc i hin;have d0:=(HS.out.below.cell (World.block_lt_of_cell? w7 _ LM)).trans LM;have d1:=(HS.out.below.cell (World.block_lt_of_cell? w7 _ dd1)).trans dd1;obtain⟨s,hs⟩:∃ s,gs l i=s:=⟨_,rfl⟩;have hsl:s∈l:=by rw[←hs,J8 _ _ (by rw[HR0.out.len];exact hin)];exact List.getElem_mem _
     have hiv:=Ig.out s hsl;have hsu:qG l (i+1)=qG l i+s.2.length:=by rw[←hs];exact jJ l (by rw[HR0.out.len];exact hin)
     have hls:s.2.length≤500:=by
      have h2:=nM l (show i+1≤n0 by omega);have h3:=HSL.out;omega
     rw[hs] at d0 d1 dd1 pI;obtain⟨ln,hln⟩:∃ ln,s.2.length=ln:=⟨_,rfl⟩;rw[hln] at d1 hls dd1 pI;have tZ:=zH pI;have HD1:=zH dd1;have V5:=zH hiv;have HSU:=zH hsu;have fP:=zH hln;have p0:(0:Int)≤(i:Int):=by omega
     have p1:(i:Int)<(n0:Int):=by omega
     clear hc hs hsl hiv hsu hln LM dd1 pI
     by_cases hx:s.1<2
     ·have e2:decide (s.1<2)=true:=by simpa using hx
      obtain⟨a1,a2⟩:=rF HZ.out s.2;obtain⟨b1,b2⟩:=rF HZT.out s.2;have HAD:=zH (lD Aj ln cj s.2 HS.out (tZ.out.grow HS.out.below) (by omega) a1);obtain⟨R,hR⟩:∃ R,fU S s.2=R:=⟨_,rfl⟩;obtain⟨R2,hR2⟩:∃ R,fU T s.2=R:=⟨_,rfl⟩;rw[hR] at a2 HAD;rw[hR2] at b2;have HZ2:=zH (a2.zs.up (by omega));have HZT2:=zH b2.zs;have HB1X:=zH b1;have HR2X:=zH hR2
      have HG2:=zH (show R.1.given=R2.1.given by
       have f1:=HL8.out.few.2;have f2:=VA.out.few.2
       rw[a2.given (by have:=HM.out.1;have:=fP.out;omega),b2.given (by have:=HM.out.2;have:=fP.out;omega),HG.out])
      have HL2:=zH (show IE 8 R.1 E (qG l (i+1)+2*(i+1)) from (HL8.out.add a2 fun x hx=>by have:=V5.out x hx;omega).more (by have:=HSU.out;have:=fP.out;omega));have HLT2:=zH (show IE 8 R2.1 [] (qG l (i+1)+2*(i+1)) from (VA.out.add b2 fun x hx=>by have:=V5.out x hx;omega).more (by have:=HSU.out;have:=fP.out;omega));have uf:=zH (show R.1.most=262144∧R2.1.most=262144 by rw[a2.cm.1,b2.cm.1];exact HM.out);clear a1 a2 b1 b2 hR hR2
      go_wp2_with fail
      refine HAD.out.mono ?_
      rintro e w11 ⟨rfl,h11⟩
      have H11:=zH h11;have d2:=(h11.below.cell (World.block_lt_of_cell? w7 _ HD1.out)).trans HD1.out;have HAD2:=zH (lD Aj ln cj s.2 h11.other (tZ.out.grow h11.below) (by omega) HB1X.out);rw[HR2X.out] at HAD2;clear h11 HAD d0 d1
      go_wp2_with fail
      refine HAD2.out.mono ?_
      rintro e w12 ⟨rfl,h12⟩
      have IC:=zH h12.other;clear h12 HAD2 d2
      go_wp2
      go_roundw
      case rel=>exact⟨i+1,R.1,R2.1,E,by omega,by go_num,HZ2.out,HZT2.out,HL2.out,HLT2.out,uf.out,HG2.out,IC.out⟩
      case measure=>simp[intOf];omega
     ·have e2:decide (s.1<2)=false:=by simpa using hx
      have Io:s.2.all fC=true→BI S s.2:=fun ha=>(fO HZ.out (by omega) (by rw[fP.out];omega) ha).1;have Ai:=zH (jH Aj ln cj s.2 HS.out (fun w' P k=>tZ.out.grow k.below) Io);obtain⟨R,hR⟩:∃ R,bK S s.2=R:=⟨_,rfl⟩;rw[hR] at Ai
      have hkey:Zs (i+1) R.1∧(∃ E2,IE 8 R.1 E2 (qG l i+2*i))∧R.1.most=262144∧R.1.given=S.given:=by
       by_cases hall:s.2.all fC=true
       ·obtain⟨_,a2,a3⟩:=fO HZ.out (by omega) (xs:=s.2) (by rw[fP.out];omega) hall;rw[hR] at a2 a3;obtain⟨E2,k,_⟩:=HL8.out.solve a3;exact⟨a2,⟨_,k⟩,by rw[a3.cm.2];exact HM.out.1,a3.given⟩
       ·have e:R=(S,0,130):=by rw[←hR];unfold bK;rw[if_neg hall]
        rw[e];exact⟨HZ.out.up (by omega),⟨_,HL8.out⟩,HM.out.1,rfl⟩
      obtain⟨k1,⟨E2,k2⟩,k3,k4⟩:=hkey;have HZ2:=zH k1;have HL2:=zH (show IE 8 R.1 E2 (qG l (i+1)+2*(i+1)) from k2.more (by have:=HSU.out;omega));have HLT2:=zH (show IE 8 T [] (qG l (i+1)+2*(i+1)) from VA.out.more (by have:=HSU.out;omega));have uf:=zH (And.intro k3 HM.out.2);have HG2:=zH (k4.trans HG.out);clear Io hR k1 k2 k3 k4
      go_wp2_with fail
      refine Ai.out.mono ?_
      rintro e w11 ⟨rfl,h11⟩
      have H11:=zH h11;clear h11 Ai d0 d1
      go_wp2
      go_roundw
      case rel=>exact⟨i+1,R.1,T,E2,by omega,by go_num,HZ2.out,HZT.out,HL2.out,HLT2.out,uf.out,HG2.out,H11.out⟩
      case measure=>simp[intOf];omega
    ·obtain rfl:i=n0:=by omega
     have e1:decide ((i:Int)<(i:Int))=false:=by simp
     have hlit:∀ a∈asm,0<a.natAbs∧a.natAbs≤65536:=fun a hm=>by have:=bD.1 (List.all_eq_true.1 Dk.out a hm);omega
     obtain⟨a1,a2,a3⟩:=fO HZ.out (by omega) (xs:=asm) (by rw[HQ1.out.len];omega) Dk.out;obtain⟨b1,b2,b3⟩:=fO HZT.out (by omega) (xs:=asm) (by rw[HQ1.out.len];omega) Dk.out;have hss:bK S asm=S.solve asm:=by unfold bK;rw[if_pos Dk.out]
     obtain⟨R,hR⟩:∃ R,bK S asm=R:=⟨_,rfl⟩;obtain⟨R2,hR2⟩:∃ R,bK T asm=R:=⟨_,rfl⟩
     have hag:R.2.2=0→(R.1.solve asm).2.2=0:=fun h0=>by
      have hld:=HZ.out.lead (by omega) (by rw[HQ1.out.len];omega) hlit (by rw[←hss,hR];exact h0);rw[←hss,hR] at hld;rw[hR] at a2 a3;exact hld.solve a2 (by omega) (by rw[HQ1.out.len];omega) hlit a3.av
     rw[hR] at a2 a3;rw[hR2] at b3;obtain⟨c1,c2,c3⟩:=fO a2 (by omega) (xs:=asm) (by rw[HQ1.out.len];omega) Dk.out;have hss2:bK R.1 asm=R.1.solve asm:=by unfold bK;rw[if_pos Dk.out]
     rw[←hss2] at hag;obtain⟨R3,hR3⟩:∃ R3,bK R.1 asm=R3:=⟨_,rfl⟩;rw[hR3] at c3 hag;have yw:=zH (jH A1 n1 ai5 asm HS.out (fun w' P k=>HQ1.out.grow k.below) (fun _=>a1));rw[hR] at yw
     have hkey:R.2.2≠0∨R2.2.2≠0∨(R3.2.2=0∧R.2.1=R2.2.1∧R.2.1=R3.2.1):=by
      by_cases h1:R.2.2=0
      ·by_cases h2:R2.2.2=0
       ·have h3:=hag h1;rw[h1] at a3;rw[h2] at b3;rw[h3] at c3;exact .inr (.inr ⟨h3,verdict_same a3 b3 HG.out.symm,verdict_same a3 c3 a3.given⟩)
       ·exact .inr (.inl h2)
      ·exact .inl h1
     have HKEY:=zH hkey;have HB1X:=zH b1;have HC1X:=zH c1;have HR2X:=zH hR2;have HR3X:=zH hR3;clear a1 a2 a3 b1 b2 b3 c1 c2 c3 hR hR2 hR3 hss hss2 hag hkey hlit
     go_wp2_with fail
     refine yw.out.mono ?_
     rintro e w13 ⟨rfl,FE⟩
     have HS2:=zH (jH A1 n1 ai5 asm FE.other (fun w' P k=>HQ1.out.grow k.below) (fun _=>HB1X.out));rw[HR2X.out] at HS2;clear FE yw
     go_wp2_with fail
     refine HS2.out.mono ?_
     rintro e w14 ⟨rfl,QX⟩
     have Hy:=zH (jH A1 n1 ai5 asm QX.other (fun w' P k=>HQ1.out.grow k.below) (fun _=>HC1X.out));rw[HR3X.out] at Hy;clear QX HS2
     go_wp2_with fail
     refine Hy.out.mono ?_
     rintro e w15 ⟨rfl,Qd⟩
     have HB15:=zH (HB7.out.trans (Qd.below.mono HB7.out.size));clear Qd Hy
     by_cases h1:R.2.2=0
     ·have e3:(R.2.2 != 0)=false:=by simpa using h1
      have e4:decide (R.2.2=0)=true:=by simpa using h1
      by_cases h2:R2.2.2=0
      ·have e5:(R2.2.2 != 0)=false:=by simpa using h2
       have e6:decide (R2.2.2=0)=true:=by simpa using h2
       obtain⟨k1,k2,k3⟩:R3.2.2=0∧R.2.1=R2.2.1∧R.2.1=R3.2.1:=by
        rcases HKEY.out with q | q | q
        ·exact absurd h1 q
        ·exact absurd h2 q
        ·exact q
       have e7:(R3.2.2==0)=true:=by simpa using k1
       have e8:decide (R3.2.2=0)=true:=by simpa using k1
       have e9:(R.2.1==R2.2.1)=true:=by simpa using k2
       have e10:decide (R.2.1=R2.2.1)=true:=by simpa using k2
       have e11:(R.2.1==R3.2.1)=true:=by simpa using k3
       have e12:decide (R.2.1=R3.2.1)=true:=by simpa using k3
       clear h1 h2 k1 k2 k3
       go_wp2
       go_ret
       exact⟨rfl,HB15.out⟩
      ·have e5:(R2.2.2 != 0)=true:=by simpa using h2
       have e6:decide (R2.2.2=0)=false:=by simpa using h2
       clear h1 h2
       go_wp2
       go_ret
       exact⟨rfl,HB15.out⟩
     ·have e3:(R.2.2 != 0)=true:=by simpa using h1
      have e4:decide (R.2.2=0)=false:=by simpa using h1
      clear h1
      go_wp2
      go_ret
      exact⟨rfl,HB15.out⟩
end Go.Proofs.YthbbmdnfkkffjaaGreat
